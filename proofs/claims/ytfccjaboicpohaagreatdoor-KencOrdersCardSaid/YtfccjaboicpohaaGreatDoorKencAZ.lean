/- A part of the proof that the statement holds for every input that it names. No other condition. -/
import Derived.Test.YtfccjaboicpohaaGreatDoorUxMemAZ
import Derived.Test.YtfccjaboicpohaaGreatDoorRows
import Derived.Handy
import Derived.Laws.EntriesVeiled
import Derived.WalkSpells
import Derived.WalkLawsBesides
import Derived.BigQuiet
import Derived.Deep.Cut
import Derived.Deep.DeepCutAuto
import Derived.Lib.Overlaps
import Derived.Lib.Hide
import Derived.Test.YtfccjaboicpohaaGreatDoorUxCollAZ
import Derived.Test.YtfccjaboicpohaaGreatDoorUxKencAZ
import Derived.Test.YtfccjaboicpohaaGreatDoorSignAZ
set_option linter.unusedVariables false
set_option linter.unusedSimpArgs false
namespace Go.Proofs.YtfccjaboicpohaaGreatDoor
open Go.RowKit
def vV (k n:Int) (s:ByteArray):Value:= .agg #[.int .i64 k,.int .i64 n,.string s]
def okVB (k n:Int) (s:ByteArray):Bool:=if k=0 then decide (n=0)&&s.toList.isEmpty else if k=1 then (decide (n=0)||decide (n=1))&&s.toList.isEmpty else if k=2 then s.toList.isEmpty else decide (k=3)&&decide (n=0)
set_option maxHeartbeats 4000000 in
set_option maxRecDepth 100000 in
theorem vok_ (k n:Int) (s:ByteArray) (w:World):Calls Tryz.prog 132 #[vV k n s] w fun e w'=>e= .returned (.bool (okVB k n s))∧w'=w.alloc (.cells #[.int .i64 k,.int .i64 n,.string s] 84):=by
 unfold vV
 obtain ⟨E,hE⟩: ∃E,s.toList.isEmpty=E:=⟨_,rfl⟩
 obtain ⟨R,hR⟩: ∃R,okVB k n s=R:=⟨_,rfl⟩
 rw [hR]
 unfold okVB at hR
 rw [hE] at hR
 have HR:=Lib.hid hR
 clear hR
 by_cases h0:k=0
 ·subst h0
  go_enter Tryz.func132,Tryz.ntmps132
  by_cases h1:n=0
  ·subst h1
   go_wp2
   go_returns
   exact ⟨by rw [←HR.out];simp,rfl⟩
  ·have k1:(n==0)=false:=beq_false_of_ne h1
   have H1:=Lib.hid h1
   clear h1
   go_wp2
   go_returns
   exact ⟨by rw [←HR.out];simp [H1.out],rfl⟩
 ·have q0:(k==0)=false:=beq_false_of_ne h0
  by_cases h1:k=1
  ·subst h1
   clear h0 q0
   go_enter Tryz.func132,Tryz.ntmps132
   by_cases h2:n=0
   ·subst h2
    go_wp2
    go_returns
    exact ⟨by rw [←HR.out];simp,rfl⟩
   ·have k1:(n==0)=false:=beq_false_of_ne h2
    by_cases h3:n=1
    ·subst h3
     clear h2 k1
     go_wp2
     go_returns
     exact ⟨by rw [←HR.out];simp,rfl⟩
    ·have k2:(n==1)=false:=beq_false_of_ne h3
     have H2:=Lib.hid (And.intro h2 h3)
     clear h2 h3
     go_wp2
     go_returns
     exact ⟨by rw [←HR.out];simp [H2.out.1,H2.out.2],rfl⟩
  ·have q1:(k==1)=false:=beq_false_of_ne h1
   by_cases h2:k=2
   ·subst h2
    clear h0 h1 q0 q1
    go_enter Tryz.func132,Tryz.ntmps132
    go_wp2
    go_returns
    exact ⟨by rw [←HR.out];simp,rfl⟩
   ·have q2:(k==2)=false:=beq_false_of_ne h2
    have HK:=Lib.hid (And.intro h0 (And.intro h1 h2))
    clear h0 h1 h2
    go_enter Tryz.func132,Tryz.ntmps132
    by_cases h3:k=3
    ·subst h3
     by_cases h4:n=0
     ·subst h4
      go_wp2
      go_returns
      exact ⟨by rw [←HR.out];simp,rfl⟩
     ·have k4:(n==0)=false:=beq_false_of_ne h4
      have H4:=Lib.hid h4
      clear h4
      go_wp2
      go_returns
      exact ⟨by rw [←HR.out];simp [H4.out],rfl⟩
    ·have q3:(k==3)=false:=beq_false_of_ne h3
     have H3:=Lib.hid h3
     clear h3
     go_wp2
     go_returns
     exact ⟨by rw [←HR.out,if_neg HK.out.1,if_neg HK.out.2.1,if_neg HK.out.2.2,decide_eq_false H3.out];rfl,rfl⟩
set_option maxHeartbeats 4000000 in
set_option maxRecDepth 100000 in
theorem vrok_ (k n:Int) (s:ByteArray) (w:World):Calls Tryz.prog 126 #[vV k n s] w fun e w'=>e= .returned (.bool (okVB k n s))∧w'=w.alloc (.cells #[.int .i64 k,.int .i64 n,.string s] 84):=by
 unfold vV
 obtain ⟨E,hE⟩: ∃E,s.toList.isEmpty=E:=⟨_,rfl⟩
 obtain ⟨R,hR⟩: ∃R,okVB k n s=R:=⟨_,rfl⟩
 rw [hR]
 unfold okVB at hR
 rw [hE] at hR
 have hk:(k<0∨3<k)∨k=0∨k=1∨k=2∨k=3:=by omega
 rcases hk with hk|hk
 ·have hR':R=false:=by
   rw [if_neg (by omega),if_neg (by omega),if_neg (by omega),decide_eq_false (by omega)] at hR
   rw [←hR]
   rfl
  subst hR'
  rcases hk with h|h
  ·have q0: ¬(k≥0):=by omega
   clear hR
   go_enter Tryz.func126,Tryz.ntmps126
   go_wp2
   go_returns
   exact ⟨rfl,rfl⟩
  ·have q0:(k≥0):=by omega
   have q1: ¬(k≤3):=by omega
   clear hR
   go_enter Tryz.func126,Tryz.ntmps126
   go_wp2
   go_returns
   exact ⟨rfl,rfl⟩
 ·have HR:=Lib.hid hR
  clear hR
  by_cases h0:n=0
  ·subst h0
   rcases hk with rfl|rfl|rfl|rfl<;>cases E
   all_goals
    go_enter Tryz.func126,Tryz.ntmps126
    go_wp2
    go_returns
    exact ⟨by rw [←HR.out];simp,rfl⟩
  ·have k1:(n==0)=false:=beq_false_of_ne h0
   by_cases h1:n=1
   ·subst h1
    clear h0 k1
    rcases hk with rfl|rfl|rfl|rfl<;>cases E
    all_goals
     go_enter Tryz.func126,Tryz.ntmps126
     go_wp2
     go_returns
     exact ⟨by rw [←HR.out];simp,rfl⟩
   ·have k2:(n==1)=false:=beq_false_of_ne h1
    have H2:=Lib.hid (And.intro h0 h1)
    clear h0 h1
    rcases hk with rfl|rfl|rfl|rfl<;>cases E
    all_goals
     go_enter Tryz.func126,Tryz.ntmps126
     go_wp2
     go_returns
     exact ⟨by rw [←HR.out];simp [H2.out.1,H2.out.2],rfl⟩
def clV (k n:Int) (s:ByteArray):Value:=if okVB k n s=true then vV k n s else vV 0 0 ⟨#[]⟩
set_option maxHeartbeats 4000000 in
theorem vnull_ (w:World):Calls Tryz.prog 133 #[] w fun e w'=>e= .returned (.agg #[.int .i64 0,.int .i64 0,.string ⟨#[]⟩])∧w'=w.alloc (.cells #[.int .i64 0,.int .i64 0,.string ⟨#[]⟩] 84):=by
 go_enter Tryz.func133,Tryz.ntmps133
 go_wp2
 go_returns
 exact ⟨rfl,rfl⟩
set_option maxHeartbeats 4000000 in
set_option maxRecDepth 100000 in
theorem vis_ (k n:Int) (s:ByteArray) (w:World):Calls Tryz.prog 85 #[vV k n s] w fun e w'=>e= .returned (clV k n s)∧Ux.Touch (fun _=>False) w w':=by
 have c1:=Lib.hid (vok_ k n s)
 have c2:=Lib.hid vnull_
 unfold clV
 unfold vV at c1⊢
 obtain ⟨b,hb⟩: ∃b,okVB k n s=b:=⟨_,rfl⟩
 rw [hb] at c1⊢
 clear hb
 cases b with
 |false=>
  go_enter Tryz.func85,Tryz.ntmps85
  go_wp2_with (first|(go_at_call 132;refine (c1.out _).mono ?_;rintro e w2 ⟨rfl,rfl⟩)|(go_at_call 133;refine (c2.out _).mono ?_;rintro e w2 ⟨rfl,rfl⟩))
  go_returns
  exact ⟨rfl,by repeat (first|exact Ux.Touch.refl _ _|refine Ux.Touch.alloc ?_ _)⟩
 |true=>
  go_enter Tryz.func85,Tryz.ntmps85
  go_wp2_with (first|(go_at_call 132;refine (c1.out _).mono ?_;rintro e w2 ⟨rfl,rfl⟩)|(go_at_call 133;refine (c2.out _).mono ?_;rintro e w2 ⟨rfl,rfl⟩))
  go_returns
  exact ⟨rfl,by repeat (first|exact Ux.Touch.refl _ _|refine Ux.Touch.alloc ?_ _)⟩
set_option maxHeartbeats 4000000 in
set_option maxRecDepth 100000 in
theorem vclean_ (k n:Int) (s:ByteArray) (w:World):Calls Tryz.prog 81 #[vV k n s] w fun e w'=>e= .returned (clV k n s)∧Ux.Touch (fun _=>False) w w':=by
 have c1:=Lib.hid (vrok_ k n s)
 have c2:=Lib.hid vnull_
 unfold clV
 unfold vV at c1⊢
 obtain ⟨b,hb⟩: ∃b,okVB k n s=b:=⟨_,rfl⟩
 rw [hb] at c1⊢
 clear hb
 cases b with
 |false=>
  go_enter Tryz.func81,Tryz.ntmps81
  go_wp2_with (first|(go_at_call 126;refine (c1.out _).mono ?_;rintro e w2 ⟨rfl,rfl⟩)|(go_at_call 133;refine (c2.out _).mono ?_;rintro e w2 ⟨rfl,rfl⟩))
  go_returns
  exact ⟨rfl,by repeat (first|exact Ux.Touch.refl _ _|refine Ux.Touch.alloc ?_ _)⟩
 |true=>
  go_enter Tryz.func81,Tryz.ntmps81
  go_wp2_with (first|(go_at_call 126;refine (c1.out _).mono ?_;rintro e w2 ⟨rfl,rfl⟩)|(go_at_call 133;refine (c2.out _).mono ?_;rintro e w2 ⟨rfl,rfl⟩))
  go_returns
  exact ⟨rfl,by repeat (first|exact Ux.Touch.refl _ _|refine Ux.Touch.alloc ?_ _)⟩
end Go.Proofs.YtfccjaboicpohaaGreatDoor
namespace Go.Proofs.YtfccjaboicpohaaGreatDoor
open Go.RowKit
set_option maxHeartbeats 2000000 in
theorem kt_ (n:Int) (hn: -9223372036854775808≤n∧n≤9223372036854775807) (w:World):Calls Tryz.prog 131 #[.int .i64 n] w fun e w'=>e= .returned (.int .u64 (n+9223372036854775808))∧w'=w:=by
 obtain ⟨y,hy⟩: ∃y:Nat,n % 18446744073709551616=(y:Nat):=⟨(n % 18446744073709551616).toNat,by omega⟩
 have hx:=Ux.xor_top y (by omega)
 have e:(((y+9223372036854775808) % 18446744073709551616:Nat):Int)=n+9223372036854775808:=by omega
 rw [e] at hx
 have hw:IntKind.u64.wrap n=(y:Int):=by rw [Ux.u64w];exact hy
 clear e hn hy
 go_enter Tryz.func131,Tryz.ntmps131
 go_wp2
 go_returns
 exact ⟨rfl,rfl⟩
set_option maxHeartbeats 2000000 in
theorem rt_ (n:Int) (hn: -9223372036854775808≤n∧n≤9223372036854775807) (w:World):Calls Tryz.prog 135 #[.int .i64 n] w fun e w'=>e= .returned (.int .u64 (n+9223372036854775808))∧w'=w:=by
 have e:IntKind.u64.wrap (IntKind.u64.wrap n+9223372036854775808)=n+9223372036854775808:=by rw [Ux.u64w,Ux.u64w];omega
 clear hn
 go_enter Tryz.func135,Tryz.ntmps135
 go_wp2
 go_returns
 exact ⟨rfl,rfl⟩
end Go.Proofs.YtfccjaboicpohaaGreatDoor
namespace Go.Proofs.YtfccjaboicpohaaGreatDoor
open Go.RowKit
def tmid (s:List UInt8) (i:Nat):List UInt8:=(s.take i).map (fun c=>255-c)++s.drop i
theorem tmid_get {s:List UInt8} {i:Nat} {x:UInt8} (h:s[i]? =some x):(tmid s i)[i]? =some x:=by
 have hi:=(List.getElem?_eq_some_iff.1 h).1
 unfold tmid
 rw [List.getElem?_append_right (by simp;omega),List.getElem?_drop]
 simp only [List.length_map,List.length_take]
 rw [show i+(i-min i s.length)=i by omega,h]
theorem tmid_step {s:List UInt8} {i:Nat} {x:UInt8} (h:s[i]? =some x):(tmid s i).set i (255-x)=tmid s (i+1):=by
 have hi:=(List.getElem?_eq_some_iff.1 h).1
 unfold tmid
 rw [List.take_add_one,h,List.map_append,List.append_assoc]
 have hd:s.drop i=x::s.drop (i+1):=by rw [List.drop_eq_getElem_cons hi,(List.getElem?_eq_some_iff.1 h).2]
 rw [List.set_append_right _ _ (by simp;omega),hd]
 simp only [List.length_map,List.length_take]
 rw [show i-min i s.length=0 by omega]
 rfl
theorem u8_turn (x:UInt8):((255-x).toNat:Int)=255-(x.toNat:Int):=by
 have:=x.toNat_lt
 rw [UInt8.toNat_sub]
 have e:(255:UInt8).toNat=255:=rfl
 rw [e]
 omega
set_option maxHeartbeats 4000000 in
set_option maxRecDepth 100000 in
theorem turn21 (s:ByteArray) (w:World) (hs:s.size≤9223372036854775807):Calls Tryz.prog 87 #[.string s] w fun e w'=>e= .returned (.string ⟨(Ux.turn s.data.toList).toArray⟩)∧Ux.Touch (fun _=>False) w w':=by
 have hrun:=run_bytes_of_string (P:=Tryz.prog) w 9 160 5 s Tryz.underlying9 Tryz.underlying160 Tryz.underlying5
 obtain ⟨n,hn⟩: ∃n,s.size=n:=⟨_,rfl⟩
 obtain ⟨l,hl⟩: ∃l,s.data.toList=l:=⟨_,rfl⟩
 have hll:l.length=n:=by rw [←hl,←hn];simp
 obtain ⟨cap,hcap⟩: ∃cap,grownCap w s.size 0 5=cap:=⟨_,rfl⟩
 have hcge:n≤cap:=by rw [←hcap,←hn];exact grownCap_ge w s.size 0 5
 rw [hcap] at hrun
 obtain ⟨W,hW⟩: ∃W,w.drew.alloc (.cells (bytesRow s cap) 5 ((bytesRow s cap).size,(bytesRow s cap).size+1))=W:=⟨_,rfl⟩
 have hbs:n≤(bytesRow s cap).size:=by
  unfold bytesRow
  rw [Array.size_append,Array.size_map]
  have:s.data.size=s.size:=rfl
  omega
 have hcell: ∀(j:Nat) (x:UInt8),l[j]? =some x→W.cell? ⟨w.heap.size,j,none⟩=some (.int .u8 (x.toNat:Int)):=fun j x hx=>by
  rw [←hl] at hx
  obtain ⟨hj,e⟩:=List.getElem?_eq_some_iff.1 hx
  have hj':j<s.data.size:=by simpa using hj
  have:=World.cell?_alloc_mark w.drew (bytesRow s cap) 5 ((bytesRow s cap).size,(bytesRow s cap).size+1) j
  rw [hW] at this
  rw [show w.drew.heap.size=w.heap.size from rfl] at this
  rw [this,bytesRow_at s cap j hj']
  rw [←e]
  simp
 have hfr: ∀j,j<n→W.frozen? ⟨w.heap.size,j,none⟩=false:=fun j hj=>by
  have:=World.frozen?_alloc_mark w.drew (bytesRow s cap) 5 (bytesRow s cap).size ((bytesRow s cap).size+1) j
  rw [hW] at this
  rw [show w.drew.heap.size=w.heap.size from rfl] at this
  rw [this]
  simp
  omega
 have hT:Ux.Touch (fun _=>False) w W:=by rw [←hW];exact ((Ux.Touch.refl _ w).drew).alloc _
 rw [hW,hn] at hrun
 obtain ⟨g,hg⟩: ∃g,w.heap.size=g:=⟨_,rfl⟩
 rw [hg] at hrun hcell hfr
 have j0:(n:Int)≤9223372036854775807:=by omega
 have HH:=Lib.hid (And.intro hcell (And.intro hfr (And.intro hT (And.intro hll (And.intro hcge hg)))))
 rw [hl]
 clear hcell hfr hT hll hcge hW hbs hcap hl hg hs
 go_enter Tryz.func87,Tryz.ntmps87
 go_wp2
 go_loopg [10] n (fun g' s10 wr=> ∃i:Nat,s10= .int .i64 i∧i+g'=n∧Hid ((∀(j:Nat) (x:UInt8),(tmid l i)[j]? =some x→wr.cell? ⟨g,j,none⟩=some (.int .u8 (x.toNat:Int)))∧(∀j,j<n→wr.frozen? ⟨g,j,none⟩=false)∧Ux.Touch (fun _=>False) w wr))
 case atStart=>exact ⟨0,rfl,by omega,Lib.hid ⟨fun j x hx=>HH.out.1 j x (by simpa [tmid] using hx),HH.out.2.1,HH.out.2.2.1⟩⟩
 case round=>
  obtain ⟨i,rfl,hig,HI⟩:=hrel
  have p0:(0:Int)≤i:=by omega
  by_cases hlt:i<n
  ·obtain ⟨g',rfl⟩: ∃g',gk=g'+1:=⟨gk-1,by omega⟩
   have j1:(i:Int)<n:=by omega
   obtain ⟨x,hx⟩: ∃x,l[i]? =some x:=⟨l[i]'(by have:=HH.out.2.2.2.1;omega),List.getElem?_eq_getElem (by have:=HH.out.2.2.2.1;omega)⟩
   have c1:=HI.out.1 i x (tmid_get hx)
   have f1:=HI.out.2.1 i hlt
   have hx1:(x.toNat:Int)≤255:=by have:=x.toNat_lt;omega
   have hx0:(0:Int)≤x.toNat:=by omega
   have HX:=Lib.hid hx
   clear hx
   go_wp2
   go_roundg g'
   case measure=>omega
   case rel=>
    refine ⟨i+1,rfl,by omega,Lib.hid ⟨fun j y hy=> ?_,fun j hj=>by simpa using HI.out.2.1 j hj,HI.out.2.2.setCell (fun h=>by have:=HH.out.2.2.2.2.2;simp only at h;omega) _⟩⟩
    rw [←tmid_step HX.out,List.getElem?_set] at hy
    by_cases e:i=j
    ·subst e
     rw [if_pos rfl] at hy
     split at hy
     ·cases hy
      rw [World.cell?_setCell_same _ _ _ c1,u8_turn]
     ·cases hy
    ·rw [if_neg e] at hy
     rw [World.cell?_setCell_other _ _ _ _ (fun h=>e (congrArg Addr.off h))]
     exact HI.out.1 j y hy
  ·obtain rfl:i=n:=by omega
   have q1: ¬(i:Int)<i:=by omega
   have hfin:tmid l i=Ux.turn l:=by
    unfold tmid Ux.turn
    rw [List.take_of_length_le (by have:=HH.out.2.2.2.1;omega),List.drop_of_length_le (by have:=HH.out.2.2.2.1;omega),List.append_nil]
   have hlen:(Ux.turn l).length=i:=by unfold Ux.turn;rw [List.length_map];exact HH.out.2.2.2.1
   have hcb:=run_convert_bytes_back (P:=Tryz.prog) wr 160 9 5 ⟨g,0,none⟩ cap (Ux.turn l) Tryz.underlying160 Tryz.underlying5 Tryz.underlying9 (fun j hj=>by
    have e:(⟨g,0,none⟩:Addr).add j=⟨g,j,none⟩:=by unfold Addr.add;split<;>simp_all
    rw [e]
    exact HI.out.1 j _ (by rw [hfin,List.getElem?_eq_getElem hj]))
   rw [hlen] at hcb
   have HT:=Lib.hid HI.out.2.2
   clear hlt hfin hlen
   go_wp2
   go_ret
   exact ⟨rfl,HT.out⟩
end Go.Proofs.YtfccjaboicpohaaGreatDoor
namespace Go.Proofs.YtfccjaboicpohaaGreatDoor
open Go.RowKit
open Ux (bv bv_length)
theorem infoBy:(Tryz.prog.info? 5).map (fun i=>(i.zero,i.size,i.bytes))=some (some (.int .u8 0),1,1):=by kernel_rfl
def tzer (l:List UInt8) (i:Nat):List UInt8:=Ux.turn (l.take i)++List.replicate (l.length-i) 0
theorem tzer_length {l:List UInt8} {i:Nat} (h:i≤l.length):(tzer l i).length=l.length:=by
 unfold tzer Ux.turn;simp;omega
theorem tzer_step {l:List UInt8} {i:Nat} {x:UInt8} (h:l[i]? =some x):(tzer l i).set i (255-x)=tzer l (i+1):=by
 have hi:=(List.getElem?_eq_some_iff.1 h).1
 unfold tzer Ux.turn
 rw [List.take_add_one,h,List.map_append,List.append_assoc,List.set_append_right _ _ (by simp;omega)]
 have e:l.length-i=(l.length-(i+1))+1:=by omega
 rw [e,List.replicate_succ]
 simp only [List.length_map,List.length_take]
 rw [show i-min i l.length=0 by omega]
 rfl
theorem bv_set (l:List UInt8) (i:Nat) (x:UInt8):(bv l).set i (.int .u8 (x.toNat:Int))=bv (l.set i x):=by unfold bv;rw [List.map_set]
set_option maxHeartbeats 4000000 in
set_option maxRecDepth 100000 in
theorem turned22 (s:ByteArray) (w:World) (h0:0<s.size) (hs:s.size≤4000000):Calls Tryz.prog 91 #[.string s] w fun e w'=>e= .returned (.string ⟨(Ux.turn s.data.toList).toArray⟩)∧Ux.Touch (fun _=>False) w w':=by
 obtain ⟨i0,hi0,hz0,hz1,hz2⟩:=info_parts infoBy
 obtain ⟨n,hn⟩: ∃n,s.size=n:=⟨_,rfl⟩
 obtain ⟨l,hl⟩: ∃l,s.data.toList=l:=⟨_,rfl⟩
 have hll:l.length=n:=by rw [←hl,←hn];exact Array.length_toList
 have hg: ∀(i:Nat) (h:i<s.size),l[i]? =some s[i]:=fun i h=>by rw [←hl];exact Lib.data_getElem? s i h
 rw [hl]
 have HH:=Lib.hid (And.intro hll (And.intro hg hl))
 have j0:(n:Int)≤4000000:=by omega
 have j00:(0:Int)<n:=by omega
 clear hll hg hl
 have hmk:=run_make_row' (P:=Tryz.prog) 160 5 (.int .u8 0) 1 Tryz.underlying160 infoBy rfl .i64 .i64 n (by omega) (by omega) w
 obtain ⟨cur0,hcur0⟩: ∃c,madeCells #[Value.int .u8 0] n=c:=⟨_,rfl⟩
 have hc0:cur0.toList=bv (tzer l 0):=by
  rw [←hcur0]
  unfold tzer bv Ux.turn
  rw [List.take_zero,List.map_nil,List.nil_append,List.map_replicate,Nat.sub_zero,HH.out.1]
  apply List.ext_getElem
  ·simp [madeCells]
  ·intro i h1 h2
   simp [madeCells,Nat.mod_one]
 rw [hcur0] at hmk
 obtain ⟨W,hW⟩: ∃W,w.alloc (.cells cur0 5)=W:=⟨_,rfl⟩
 have hblk:W.heap[w.heap.size]? =some (.cells cur0 5 (0,0)):=by rw [←hW];exact heap_alloc_last w _
 have hT:Ux.Touch (fun _=>False) w W:=by rw [←hW];exact (Ux.Touch.refl _ w).alloc _
 rw [hW] at hmk
 obtain ⟨g,hg⟩: ∃g,w.heap.size=g:=⟨_,rfl⟩
 rw [hg] at hmk hblk
 have HW:=Lib.hid (And.intro hblk (And.intro hc0 (And.intro hT hg)))
 clear hblk hc0 hT hg hcur0 hW hi0 hz0 hz1 hz2
 go_enter Tryz.func91,Tryz.ntmps91
 go_wp2
 go_loopg [4] n (fun g' s4 wr=> ∃i:Nat,s4= .int .i64 i∧i+g'=n∧Hid ((∃cur,wr.heap[g]? =some (.cells cur 5 (0,0))∧cur.toList=bv (tzer l i))∧Ux.Touch (fun _=>False) w wr))
 case atStart=>exact ⟨0,rfl,by omega,Lib.hid ⟨⟨cur0,HW.out.1,HW.out.2.1⟩,HW.out.2.2.1⟩⟩
 case round=>
  obtain ⟨i,rfl,hig,HI⟩:=hrel
  have p0:(0:Int)≤i:=by omega
  obtain ⟨⟨cur,hb,hcl⟩,hT⟩:=HI.out
  by_cases hlt:i<n
  ·obtain ⟨g',rfl⟩: ∃g',gk=g'+1:=⟨gk-1,by omega⟩
   have j1:(i:Int)<n:=by omega
   have his:i<s.size:=by omega
   obtain ⟨x,hx⟩: ∃x:UInt8,s[i]'his=x:=⟨_,rfl⟩
   have hgx:=HH.out.2.1 i his
   rw [hx] at hgx
   have hx1:(x.toNat:Int)≤255:=by have:=x.toNat_lt;omega
   have hx0:(0:Int)≤x.toNat:=by omega
   have hlen:cur.toList.length=n:=by rw [hcl,bv_length,tzer_length (by have:=HH.out.1;omega),HH.out.1]
   obtain ⟨u,hu⟩: ∃u,cur.toList[i]? =some u:=⟨cur.toList[i]'(by omega),List.getElem?_eq_getElem (by omega)⟩
   have c1:wr.cell? ⟨g,i,none⟩=some u:=by rw [cell_of_row wr g i cur 5 (0,0) hb];simpa using hu
   have f1:=frozen_of_row wr g i cur 5 hb
   have HB:=Lib.hid (And.intro hb (And.intro hcl (And.intro hT hgx)))
   clear hb hcl hT hgx hlen hu
   go_wp2
   go_roundg g'
   case measure=>omega
   case rel=>
    obtain ⟨hb,hcl,hT,hgx⟩:=HB.out
    refine ⟨i+1,rfl,by omega,Lib.hid ⟨⟨cur.setIfInBounds i (.int .u8 ((255-x).toNat:Int)),?_,?_⟩,hT.setCell (fun h=>by have:=HW.out.2.2.2;simp only at h;omega) _⟩⟩
    ·rw [u8_turn];exact heap_setCell_same wr g i cur 5 _ hb
    ·rw [Array.toList_setIfInBounds,hcl,bv_set,tzer_step hgx]
  ·obtain rfl:i=n:=by omega
   have q1: ¬(i:Int)<i:=by omega
   have hfin:tzer l i=Ux.turn l:=by
    unfold tzer
    rw [List.take_of_length_le (by have:=HH.out.1;omega),HH.out.1,Nat.sub_self,List.replicate_zero,List.append_nil]
   have hlen:(Ux.turn l).length=i:=by unfold Ux.turn;rw [List.length_map];exact HH.out.1
   have hcb:=run_convert_bytes_back (P:=Tryz.prog) wr 160 9 5 ⟨g,0,none⟩ i (Ux.turn l) Tryz.underlying160 Tryz.underlying5 Tryz.underlying9 (fun j hj=>by
    have e:(⟨g,0,none⟩:Addr).add j=⟨g,j,none⟩:=by rw [Addr.add_mid];simp
    rw [e]
    refine Ux.row_cell (xs:=bv (Ux.turn l)) (k:=i) hb ?_ j _ (by unfold bv;rw [List.getElem?_map,List.getElem?_eq_getElem hj];rfl)
    rw [hcl,hfin]
    exact List.take_of_length_le (by rw [bv_length];omega))
   rw [hlen] at hcb
   have HT:=Lib.hid hT
   clear hlt hfin hlen hb hcl hT
   go_wp2
   go_ret
   exact ⟨rfl,HT.out⟩
end Go.Proofs.YtfccjaboicpohaaGreatDoor
namespace Go.Proofs.YtfccjaboicpohaaGreatDoor
open Go.RowKit
open Ux (bv bv_length bv_append)
theorem cell_newb (w:World) (c:Array Value) (ty:TypeId) (j:Nat):(w.alloc (.cells c ty)).cell? ⟨w.heap.size,j,none⟩=c[j]? :=cell_of_row _ _ j c ty (0,0) (heap_alloc_last w _)
theorem info5:(Tryz.prog.info? 5).map (fun i=>(i.zero,i.size,i.bytes))=some (some (.int .u8 0),1,1):=by kernel_rfl
theorem app52 (v:Value) (xs:List UInt8) (w:World) (h:w.ownsRow 0 5 1 v xs.length (bv xs)) (hn:xs.length≤100000000) (ys:List UInt8) (hy:ys.length≤8):
 ∃r w',(∀ty,(Builtin.append_ #[160,160] ty #[v,.slice (some ⟨w.heap.size,0,none⟩) ys.length ys.length]).run Tryz.prog (w.alloc (.cells (bv ys).toArray 5))= .ok r w')∧w'.ownsRow 0 5 1 r (xs++ys).length (bv (xs++ys))∧Ux.Touch (fun b=>v.ownBlock=some b) w w'∧(r.ownBlock=v.ownBlock∨∃g,r.ownBlock=some g∧w.heap.size≤g):=by
 obtain ⟨i0,hi0,hz0,hz1,hz2⟩:=info_parts info5
 have ta:Ux.Touch (fun b=>v.ownBlock=some b) w (w.alloc (.cells (bv ys).toArray 5)):=(Ux.Touch.refl _ w).alloc _
 have ta0:Ux.Touch (fun _=>False) w (w.alloc (.cells (bv ys).toArray 5)):=(Ux.Touch.refl _ w).alloc _
 have src:Src Tryz.prog 1 160 (.slice (some ⟨w.heap.size,0,none⟩) ys.length ys.length) ys.length (bv ys) (w.alloc (.cells (bv ys).toArray 5)):=Src.ofSlice _ Tryz.underlying160 ⟨w.heap.size,0,none⟩ ys.length ys.length (bv ys) (by rw [bv_length,Nat.mul_one]) (fun j u hj=>by
  have e:(⟨w.heap.size,0,none⟩:Addr).add j=⟨w.heap.size,j,none⟩:=by rw [Addr.add_mid];simp
  rw [e,cell_newb]
  simpa using hj) (fun u hu=>by obtain ⟨b,_,rfl⟩:=List.mem_map.1 hu;rfl)
 have key:=fun ty=>Ux.run_app (P:=Tryz.prog) (w.alloc (.cells (bv ys).toArray 5)) 160 ty 5 i0 (.int .u8 0) 1 1 Tryz.underlying160 hi0 hz0 hz1 hz2 rfl (by omega) v xs.length (bv xs) (Ux.own_touch h ta0 (fun _ _ h=>h)) _ ys.length (bv ys) src (by simp only [maxLen];omega) (by omega)
 obtain ⟨r,w',hr,ho,ht,hbk,_⟩:=key 160
 refine ⟨r,w',fun ty=>hr,by rw [List.length_append,bv_append];exact ho,ta.trans ht (fun _ _ h=>h),hbk.imp id fun ⟨g,h1,h2⟩=>⟨g,h1,by have:=ta.size;omega⟩⟩
theorem app52one (v:Value) (xs:List UInt8) (w:World) (h:w.ownsRow 0 5 1 v xs.length (bv xs)) (hn:xs.length≤100000000) (y:UInt8):
 ∃r w',(∀ty,(Builtin.append_ #[160,160] ty #[v,.slice (some ⟨w.heap.size,0,none⟩) 1 1]).run Tryz.prog (w.alloc (.cells #[.int .u8 (y.toNat:Int)] 5))= .ok r w')∧w'.ownsRow 0 5 1 r (xs++ [y]).length (bv (xs++ [y]))∧Ux.Touch (fun b=>v.ownBlock=some b) w w'∧(r.ownBlock=v.ownBlock∨∃g,r.ownBlock=some g∧w.heap.size≤g):=
 app52 v xs w h hn [y] (by simp)
theorem conv52 {w:World} {v:Value} {xs:List UInt8} (h:w.ownsRow 0 5 1 v xs.length (bv xs)):(convert 160 9 v).run Tryz.prog w= .ok (.string ⟨xs.toArray⟩) w:=by
 rcases h.2 with ⟨rfl,h0⟩|⟨g,cap,cur,rfl,_,hh,_,_,_,ht⟩
 ·have:xs= []:=List.eq_nil_of_length_eq_zero h0
  subst this
  have:=run_convert_bytes_string (P:=Tryz.prog) w 160 9 5 none 0 0 Tryz.underlying160 Tryz.underlying5 Tryz.underlying9
  rw [this]
  rfl
 ·refine run_convert_bytes_back (P:=Tryz.prog) w 160 9 5 ⟨g,0,none⟩ cap xs Tryz.underlying160 Tryz.underlying5 Tryz.underlying9 fun j hj=> ?_
  have e:(⟨g,0,none⟩:Addr).add j=⟨g,j,none⟩:=by rw [Addr.add_mid];simp
  rw [e]
  exact Ux.row_cell (xs:=bv xs) hh (by simpa using ht) j _ (by unfold bv;rw [List.getElem?_map,List.getElem?_eq_getElem hj];rfl)
theorem bytes_slice {w:World} {v:Value} {xs:List UInt8} (h:w.ownsRow 0 5 1 v xs.length (bv xs)): ∃(a:Option Addr) (c:Nat),v= .slice a xs.length c:=by
 rcases h.2 with ⟨hv,h0⟩|⟨g,cap,cur,hv,_⟩
 ·exact ⟨none,0,by rw [hv,h0]⟩
 ·exact ⟨_,_,hv⟩
end Go.Proofs.YtfccjaboicpohaaGreatDoor
namespace Go.Proofs.YtfccjaboicpohaaGreatDoor
open Go.RowKit
open Ux (bv bv_length bv_append)
def nb8 (x i j:Nat):Nat:=if j<i then x/256^(7-j) % 256 else 0
def num8 (x:Nat):List UInt8:=(List.range 8).map fun j=>UInt8.ofNat (x/256^(7-j) % 256)
theorem num8_len (x:Nat):(num8 x).length=8:=rfl
theorem num8_get (x j:Nat) (hj:j<(num8 x).length):((num8 x)[j]'hj).toNat=nb8 x 8 j:=by
 have h8:j<8:=hj
 have e:(num8 x)[j]'hj=UInt8.ofNat (x/256^(7-j) % 256):=by
  show ((List.range 8).map fun j=>UInt8.ofNat (x/256^(7-j) % 256))[j]'(by simpa using h8)=_
  rw [List.getElem_map,List.getElem_range]
 rw [e]
 unfold nb8
 rw [if_pos h8,UInt8.toNat_ofNat']
 omega
set_option maxHeartbeats 8000000 in
set_option maxRecDepth 100000 in
theorem number_ (n:Int) (hn: -9223372036854775808≤n∧n≤9223372036854775807) (w:World):Calls Tryz.prog 84 #[.int .i64 n] w fun e w'=>e= .returned (.string ⟨(num8 (n+9223372036854775808).toNat).toArray⟩)∧Ux.Touch (fun _=>False) w w':=by
 have c30:=Lib.hid (kt_ n hn w)
 obtain ⟨x,hx⟩: ∃x:Nat,n+9223372036854775808=(x:Nat):=⟨(n+9223372036854775808).toNat,by omega⟩
 have hx2:(n+9223372036854775808).toNat=x:=by omega
 rw [hx] at c30
 rw [hx2]
 have x0:(0:Int)≤x:=by omega
 have x1:(x:Int)≤18446744073709551615:=by omega
 obtain ⟨g,hg⟩: ∃g,w.heap.size=g:=⟨_,rfl⟩
 clear hx hx2 hn
 go_enter Tryz.func84,Tryz.ntmps84
 go_wp2_with (go_at_call 131;fail)
 refine c30.out.mono ?_
 rintro e w2 ⟨rfl,hw⟩
 obtain rfl:w=w2:=hw.symm
 go_wp2_with (fail)
 obtain ⟨W,hW⟩: ∃W,w.alloc (.cells #[.int .u8 0,.int .u8 0,.int .u8 0,.int .u8 0,.int .u8 0,.int .u8 0,.int .u8 0,.int .u8 0] 212)=W:=⟨_,rfl⟩
 rw [hW]
 have h0:(∀j,j<8→W.cell? ⟨g,j,none⟩=some (.int .u8 (nb8 x 0 j:Nat)))∧(∀j,j<8→W.frozen? ⟨g,j,none⟩=false)∧Ux.Touch (fun _=>False) w W:=by
  have hr:W.heap[g]? =some (.cells (bv (List.replicate 8 0)).toArray 212 (0,0)):=by rw [←hW,←hg];exact heap_alloc_new w _
  refine ⟨fun j hj=> ?_,fun j hj=>frozen_of_row W g j _ 212 hr,by rw [←hW];exact (Ux.Touch.refl _ w).alloc _⟩
  rw [cell_of_row W g j _ 212 (0,0) hr,List.getElem?_toArray,bv,List.getElem?_map,List.getElem?_replicate,if_pos hj]
  rfl
 have H0:=Lib.hid h0
 have HG:=Lib.hid hg
 clear h0 hW hg
 go_loopg [8] 8 (fun g' s8 wr=> ∃i:Nat,s8= .int .i64 i∧i+g'=8∧Hid ((∀j,j<8→wr.cell? ⟨g,j,none⟩=some (.int .u8 (nb8 x i j:Nat)))∧(∀j,j<8→wr.frozen? ⟨g,j,none⟩=false)∧Ux.Touch (fun _=>False) w wr))
 case atStart=>exact ⟨0,rfl,by omega,Lib.hid H0.out⟩
 case round=>
  obtain ⟨i,rfl,hig,HI⟩:=hrel
  by_cases hlt:i<8
  ·obtain ⟨g',rfl⟩: ∃g',gk=g'+1:=⟨gk-1,by omega⟩
   have c1:=HI.out.1 i hlt
   have f1:=HI.out.2.1 i hlt
   have h8:i=0∨i=1∨i=2∨i=3∨i=4∨i=5∨i=6∨i=7:=by omega
   obtain ⟨v0,hv0⟩: ∃v,nb8 x i i=v:=⟨_,rfl⟩
   rw [hv0] at c1
   obtain ⟨i',hi'⟩: ∃k,k=i+1:=⟨_,rfl⟩
   have HI':=Lib.hid hi'
   clear hv0 hlt hi'
   rcases h8 with rfl|rfl|rfl|rfl|rfl|rfl|rfl|rfl
   all_goals
    go_wp2
    go_roundg g'
    case measure=>omega
    case rel=>
     have hi':=HI'.out
     refine ⟨i',by rw [hi'];rfl,by omega,Lib.hid ⟨fun j hj=> ?_,fun j hj=>by simpa using HI.out.2.1 j hj,HI.out.2.2.setCell (fun h=>by have:=HG.out;simp only at h;omega) _⟩⟩
     by_cases e:j=i'-1
     ·subst e
      subst hi'
      rw [World.cell?_setCell_same _ _ _ c1]
      refine congrArg (fun v=>some (Value.int .u8 v)) ?_
      unfold nb8
      rw [if_pos (by omega)]
      simp
      try omega
     ·rw [World.cell?_setCell_other _ _ _ _ (fun h=>e (by have h2:=congrArg Addr.off h;simp only at h2;omega)),HI.out.1 j hj]
      refine congrArg (fun v:Nat=>some (Value.int .u8 (v:Int))) ?_
      unfold nb8
      by_cases h1:j<i'-1
      ·rw [if_pos (by omega),if_pos (by omega)]
      ·rw [if_neg (by omega),if_neg (by omega)]
  ·obtain rfl:i=8:=by omega
   have q1: ¬((8:Nat):Int)<8:=by omega
   have hcb:=run_convert_bytes_back (P:=Tryz.prog) wr 160 9 5 ⟨g,0,none⟩ 8 (num8 x) Tryz.underlying160 Tryz.underlying5 Tryz.underlying9 (fun j hj=>by
    have e:(⟨g,0,none⟩:Addr).add j=⟨g,j,none⟩:=by unfold Addr.add;split<;>simp_all
    rw [e,num8_get x j hj]
    exact HI.out.1 j hj)
   rw [num8_len] at hcb
   go_wp2
   go_ret
   exact ⟨rfl,HI.out.2.2⟩
end Go.Proofs.YtfccjaboicpohaaGreatDoor
namespace Go.Proofs.YtfccjaboicpohaaGreatDoor
open Go.RowKit
open Ux (bv bv_length bv_append)
theorem repK_cons {b:UInt8} (hb:b≠0) (l:List UInt8): ∀k,Lib.replaceK [0] [0,255] k (b::l)=b::Lib.replaceK [0] [0,255] k l
 |0=>rfl
 |k+1=>by
  have hix:Lib.index (b::l) [0]=if Lib.index l [0]== -1 then-1 else Lib.index l [0]+1:=by
   rw [Lib.index]
   have:List.isPrefixOf [0] (b::l)=false:=by
    have h0:((0:UInt8)==b)=false:=beq_eq_false_iff_ne.2 (fun e=>hb e.symm)
    simp [List.isPrefixOf,h0]
   rw [this]
   rfl
  by_cases hm:Lib.index l [0]= -1
  ·have h1:Lib.index (b::l) [0]= -1:=by rw [hix,hm];rfl
   rw [Lib.replaceK,Lib.replaceK,h1,hm]
   rfl
  ·have hge:=Lib.index_ge l [0]
   obtain ⟨i,hi⟩: ∃i:Nat,Lib.index l [0]=i:=⟨(Lib.index l [0]).toNat,by omega⟩
   have h1:Lib.index (b::l) [0]=((i+1:Nat):Int):=by
    rw [hix,if_neg (by simpa using hm),hi]
    rfl
   rw [Lib.replaceK_hit _ _ k _ (i+1) h1,Lib.replaceK_hit _ _ k _ i hi]
   have e:i+1+ [(0:UInt8)].length=(i+ [(0:UInt8)].length)+1:=by simp
   rw [e,List.drop_succ_cons,List.take_succ_cons]
   rfl
theorem repK_all: ∀l:List UInt8,Lib.replaceK [0] [0,255] (Lib.count l [0]) l=Ux.escB l
 | []=>by
   have:Lib.count [] [0]=0:=by decide
   rw [this]
   rfl
 |b::l=>by
  by_cases hb:b=0
  ·subst hb
   rw [Lib.count_cons_eq,Nat.add_comm,Lib.replaceK_hit _ _ _ _ 0 (by rw [Lib.index];simp [List.isPrefixOf]),Ux.escB_cons]
   have:=repK_all l
   simp only [List.take_zero,List.nil_append,Nat.zero_add,List.length_cons,List.length_nil,List.drop_succ_cons,List.drop_zero]
   rw [this]
   rfl
  ·rw [Lib.count_cons_ne b 0 l hb,repK_cons hb,repK_all l,Ux.escB_cons]
   unfold Ux.esc1
   rw [if_neg hb]
   rfl
theorem replace_zero (l:List UInt8):Lib.replaceAll l [0] [0,255]=Ux.escB l:=by
 unfold Lib.replaceAll Lib.replace Lib.replaceNum
 rw [if_neg (by decide),if_pos (.inl (by omega))]
 exact repK_all l
set_option maxHeartbeats 2000000 in
theorem escape9 (s:ByteArray) (m:Int) (w:World) (hm:w.cell? ⟨3,0,none⟩=some (.int .i64 m)) (hs:s.size≤4000000):
 Calls Tryz.prog 80 #[.string s] w fun e w'=>e= .returned (.string ⟨(Ux.esc s.data.toList).toArray⟩)∧Ux.Touch (fun _=>False) w w':=by
 have hc:=Lib.countB_le ⟨#[0]⟩ (by decide) s.size s (Nat.le_refl _)
 have c18:=Tryz.strings_ReplaceAll s ⟨#[0]⟩ ⟨#[0,255]⟩ m w (by omega) hm (by decide) (by
  have:(⟨#[0,255]⟩:ByteArray).size=2:=rfl
  rw [this]
  omega)
 rw [show (⟨#[0]⟩:ByteArray).data.toList= [0] from rfl,show (⟨#[0,255]⟩:ByteArray).data.toList= [0,255] from rfl,replace_zero] at c18
 obtain ⟨X,hX⟩: ∃X:ByteArray,(⟨(Ux.escB s.data.toList).toArray⟩:ByteArray)=X:=⟨_,rfl⟩
 have hXs:X.size≤8000000:=by
  rw [←hX]
  show (Ux.escB s.data.toList).toArray.size≤8000000
  have:=(Ux.escB_length s.data.toList).2
  simp at this⊢
  have e:s.data.size=s.size:=rfl
  omega
 rw [hX] at c18
 have C18:=Lib.hid c18
 have HX:=Lib.hid hX
 clear c18 hc hm hX
 go_enter Tryz.func80,Tryz.ntmps80
 go_wp2_with (go_at_call 125;refine C18.out.mono ?_;rintro e w2 ⟨rfl,hb⟩)
 go_ret
 refine ⟨?_,Ux.Touch.of_below hb⟩
 show Ending.returned (.string (X++⟨#[0,1]⟩))=_
 rw [←HX.out]
 congr 2
end Go.Proofs.YtfccjaboicpohaaGreatDoor
namespace Go.Proofs.YtfccjaboicpohaaGreatDoor
open Go.RowKit
open Ux (bv bv_length bv_append)
theorem app52end (v:Value) (xs:List UInt8) (w:World) (h:w.ownsRow 0 5 1 v xs.length (bv xs)) (hn:xs.length≤100000000):
 ∃r w',(∀ty,(Builtin.append_ #[160,160] ty #[v,.slice (some ⟨w.heap.size,0,none⟩) 2 2]).run Tryz.prog (w.alloc (.cells #[.int .u8 0,.int .u8 1] 5))= .ok r w')∧w'.ownsRow 0 5 1 r (xs++ [0,1]).length (bv (xs++ [0,1]))∧Ux.Touch (fun b=>v.ownBlock=some b) w w':=
 let ⟨r,w',h1,h2,h3,_⟩:=app52 v xs w h hn [0,1] (by simp)
 ⟨r,w',h1,h2,h3⟩
theorem app52c (v:Value) (xs:List UInt8) (w:World) (h:w.ownsRow 0 5 1 v xs.length (bv xs)) (hn:xs.length≤100000000) (y:UInt8) (z:Int) (hz:(y.toNat:Int)=z):
 ∃r w',(∀ty,(Builtin.append_ #[160,160] ty #[v,.slice (some ⟨w.heap.size,0,none⟩) 1 1]).run Tryz.prog (w.alloc (.cells #[.int .u8 z] 5))= .ok r w')∧w'.ownsRow 0 5 1 r (xs++ [y]).length (bv (xs++ [y]))∧Ux.Touch (fun b=>v.ownBlock=some b) w w'∧(r.ownBlock=v.ownBlock∨∃g,r.ownBlock=some g∧w.heap.size≤g):=by
 subst hz
 exact app52one v xs w h hn y
set_option maxHeartbeats 4000000 in
set_option maxRecDepth 100000 in
theorem refEscape12 (s:ByteArray) (w:World) (hs:s.size≤4000000):Calls Tryz.prog 89 #[.string s] w fun e w'=>e= .returned (.string ⟨(Ux.esc s.data.toList).toArray⟩)∧Ux.Touch (fun _=>False) w w':=by
 obtain ⟨n,hn⟩: ∃n,s.size=n:=⟨_,rfl⟩
 obtain ⟨l,hl⟩: ∃l,s.data.toList=l:=⟨_,rfl⟩
 have hll:l.length=n:=by rw [←hl,←hn];simp
 have hg: ∀(i:Nat) (h:i<s.size),l[i]? =some s[i]:=fun i h=>by rw [←hl];exact Lib.data_getElem? s i h
 rw [hl]
 have HH:=Lib.hid (And.intro hll (And.intro hg hl))
 have j0:(n:Int)≤4000000:=by omega
 clear hll hg hl
 go_enter Tryz.func89,Tryz.ntmps89
 go_wp2
 go_loopg [4,3] n (fun g s4 s3 wr=> ∃i:Nat,s4= .int .i64 i∧i+g=n∧Hid (wr.ownsRow 0 5 1 s3 (Ux.escB (l.take i)).length (bv (Ux.escB (l.take i)))∧(∀b,s3.ownBlock=some b→w.heap.size≤b)∧Ux.Touch (fun _=>False) w wr))
 case atStart=>exact ⟨0,rfl,by omega,Lib.hid ⟨World.ownsRow_nil _ 0 5 1,fun b hb=>(by cases hb),Ux.Touch.refl _ _⟩⟩
 case round=>
  obtain ⟨i,rfl,hig,HI⟩:=hrel
  have p0:(0:Int)≤i:=by omega
  have hle:=(Ux.escB_length (l.take i)).2
  rw [List.length_take] at hle
  obtain ⟨a3,c3,hs3⟩:=bytes_slice HI.out.1
  obtain ⟨k3,hk3⟩: ∃k,(Ux.escB (l.take i)).length=k:=⟨_,rfl⟩
  rw [hk3] at hs3 hle
  subst hs3
  have HK:=Lib.hid hk3
  clear hk3
  by_cases hlt:i<n
  ·obtain ⟨g',rfl⟩: ∃g',gk=g'+1:=⟨gk-1,by omega⟩
   have j1:(i:Int)<n:=by omega
   have his:i<s.size:=by omega
   obtain ⟨x,hx⟩: ∃x:UInt8,s[i]'his=x:=⟨_,rfl⟩
   have hgx:=HH.out.2.1 i his
   rw [hx] at hgx
   have hst:Ux.escB (l.take (i+1))=Ux.escB (l.take i)++Ux.esc1 x:=by rw [List.take_add_one,hgx];exact Ux.escB_snoc _ _
   obtain ⟨r2,w2,run2,row2,t2,own2⟩:=app52one (.slice a3 k3 c3) (Ux.escB (l.take i)) wr HI.out.1 (by have:=HK.out;omega) x
   obtain ⟨a4,c4,hs4⟩:=bytes_slice row2
   obtain ⟨k4,hk4⟩: ∃k,(Ux.escB (l.take i)++ [x]).length=k:=⟨_,rfl⟩
   rw [hk4] at hs4
   subst hs4
   have HK4:=Lib.hid hk4
   clear hk4
   have R2:=Lib.hid run2
   have own2': ∀b,(Value.slice a4 k4 c4).ownBlock=some b→w.heap.size≤b:=fun b hb=>by
    rcases own2 with h|⟨g,h,h'⟩
    ·exact HI.out.2.1 b (by rw [←h];exact hb)
    ·rw [h] at hb;cases hb;have:=HI.out.2.2.size;omega
   have T2:=HI.out.2.2.trans t2 (fun b hb h=>by have:=HI.out.2.1 b h;omega)
   by_cases hx0:x=0
   ·subst hx0
    obtain ⟨r5,w5,run5,row5,t5,own5⟩:=app52c _ _ w2 row2 (by have:=HK.out;rw [List.length_append];simp;omega) 255 255 rfl
    obtain ⟨a5,c5,hs5⟩:=bytes_slice row5
    obtain ⟨k5,hk5⟩: ∃k,(Ux.escB (l.take i)++ [0]++ [255]).length=k:=⟨_,rfl⟩
    rw [hk5] at hs5
    subst hs5
    clear hk5
    have R5:=Lib.hid run5
    have own5': ∀b,(Value.slice a5 k5 c5).ownBlock=some b→w.heap.size≤b:=fun b hb=>by
     rcases own5 with h|⟨g,h,h'⟩
     ·exact own2' b (by rw [←h];exact hb)
     ·rw [h] at hb;cases hb;have:=T2.size;omega
    have HR:=Lib.hid (And.intro hst (And.intro row5 (And.intro own5' (T2.trans t5 (fun b hb h=>by have:=own2' b h;omega)))))
    clear hst run2 row2 t2 own2 own2' T2 run5 row5 t5 own5 own5' hgx
    go_wp2_with (first
     |(at_builtin;refine Ux.wpList_app (v1:= .slice a3 k3 c3) (x1:= .slice (some ⟨wr.heap.size,0,none⟩) 1 1) rfl _ _ _ _ rfl rfl rfl (R2.out _) ?_)
     |(at_builtin;refine Ux.wpList_app (v1:= .slice a4 k4 c4) (x1:= .slice (some ⟨w2.heap.size,0,none⟩) 1 1) rfl _ _ _ _ rfl rfl rfl (R5.out _) ?_))
    go_roundg g'
    case measure=>omega
    case rel=>
     refine ⟨i+1,rfl,by omega,Lib.hid ⟨?_,HR.out.2.2.1,HR.out.2.2.2⟩⟩
     have e:Ux.escB (l.take (i+1))=Ux.escB (l.take i)++ [0]++ [255]:=by rw [HR.out.1,List.append_assoc];rfl
     rw [e]
     exact HR.out.2.1
   ·have hxi: ¬(x.toNat:Int)=0:=fun e=>hx0 (UInt8.toNat_inj.1 (by simpa using (by omega:x.toNat=0)))
    have HR:=Lib.hid (And.intro hst (And.intro row2 (And.intro own2' T2)))
    clear hst run2 row2 t2 own2 own2' T2 hgx
    go_wp2_with (at_builtin;refine Ux.wpList_app (v1:= .slice a3 k3 c3) (x1:= .slice (some ⟨wr.heap.size,0,none⟩) 1 1) rfl _ _ _ _ rfl rfl rfl (R2.out _) ?_)
    go_roundg g'
    case measure=>omega
    case rel=>
     refine ⟨i+1,rfl,by omega,Lib.hid ⟨?_,HR.out.2.2.1,HR.out.2.2.2⟩⟩
     have e:Ux.escB (l.take (i+1))=Ux.escB (l.take i)++ [x]:=by rw [HR.out.1];unfold Ux.esc1;rw [if_neg hx0]
     rw [e]
     exact HR.out.2.1
  ·have q1: ¬(i:Int)<n:=by omega
   have hfull:l.take i=l:=List.take_of_length_le (by have:=HH.out.1;omega)
   rw [hfull] at HI HK
   obtain ⟨r2,w2,run2,row2,t2⟩:=app52end (.slice a3 k3 c3) (Ux.escB l) wr HI.out.1 (by have:=HK.out;omega)
   have hcv:=conv52 row2
   obtain ⟨a4,c4,hs4⟩:=bytes_slice row2
   obtain ⟨k4,hk4⟩: ∃k,(Ux.escB l++ [0,1]).length=k:=⟨_,rfl⟩
   rw [hk4] at hs4
   subst hs4
   clear hk4
   have R2:=Lib.hid run2
   have T2:=Lib.hid (HI.out.2.2.trans t2 (fun b hb h=>by have:=HI.out.2.1 b h;omega))
   have he:Ux.escB l++ [0,1]=Ux.esc l:=rfl
   rw [he] at hcv
   clear run2 row2 t2 hfull hlt
   go_wp2_with (at_builtin;refine Ux.wpList_app (v1:= .slice a3 k3 c3) (x1:= .slice (some ⟨wr.heap.size,0,none⟩) 2 2) rfl _ _ _ _ rfl rfl rfl (R2.out _) ?_)
   go_ret
   exact ⟨rfl,T2.out⟩
end Go.Proofs.YtfccjaboicpohaaGreatDoor
namespace Go.Proofs.YtfccjaboicpohaaGreatDoor
open Go.RowKit
open Ux (bv bv_length bv_append)
set_option maxHeartbeats 8000000 in
set_option maxRecDepth 100000 in
theorem eight_ (n:Int) (hn: -9223372036854775808≤n∧n≤9223372036854775807) (w:World):Calls Tryz.prog 88 #[.int .i64 n] w fun e w'=>e= .returned (.string ⟨(num8 (n+9223372036854775808).toNat).toArray⟩)∧Ux.Touch (fun _=>False) w w':=by
 have c30:=Lib.hid (rt_ n hn w)
 obtain ⟨x,hx⟩: ∃x:Nat,n+9223372036854775808=(x:Nat):=⟨(n+9223372036854775808).toNat,by omega⟩
 have hx2:(n+9223372036854775808).toNat=x:=by omega
 rw [hx] at c30
 rw [hx2]
 have x0:(0:Int)≤x:=by omega
 have x1:(x:Int)≤18446744073709551615:=by omega
 clear hx hx2 hn
 go_enter Tryz.func88,Tryz.ntmps88
 go_wp2_with (go_at_call 135;fail)
 refine c30.out.mono ?_
 rintro e w2 ⟨rfl,hw⟩
 obtain rfl:w=w2:=hw.symm
 go_wp2_with (fail)
 go_loopg [4,5] 8 (fun g' s4 s5 wr=> ∃k:Nat,s5= .int .i64 (56-8*(k:Int))∧k+g'=8∧Hid (wr.ownsRow 0 5 1 s4 ((num8 x).take k).length (bv ((num8 x).take k))∧(∀b,s4.ownBlock=some b→w.heap.size≤b)∧Ux.Touch (fun _=>False) w wr))
 case atStart=>exact ⟨0,rfl,by omega,Lib.hid ⟨World.ownsRow_nil _ 0 5 1,fun b hb=>(by cases hb),Ux.Touch.refl _ _⟩⟩
 case round=>
  obtain ⟨k,rfl,hkg,HI⟩:=hrel
  obtain ⟨a3,c3,hs3⟩:=bytes_slice HI.out.1
  by_cases hlt:k<8
  ·obtain ⟨g',rfl⟩: ∃g',gk=g'+1:=⟨gk-1,by omega⟩
   have h8:k=0∨k=1∨k=2∨k=3∨k=4∨k=5∨k=6∨k=7:=by omega
   subst hs3
   have HS:=Lib.hid HI.out
   clear HI hlt
   rcases h8 with rfl|rfl|rfl|rfl|rfl|rfl|rfl|rfl
   ·obtain ⟨r,w3,hrun,hown,ht,hb⟩:=app52c (.slice a3 ((num8 x).take 0).length c3) ((num8 x).take 0) wr HS.out.1 (by simp [num8_len]) (UInt8.ofNat (x/72057594037927936 % 256)) ((x:Int)/72057594037927936) (by rw [UInt8.toNat_ofNat'];omega)
    have e:(num8 x).take 1=(num8 x).take 0++ [UInt8.ofNat (x/72057594037927936 % 256)]:=rfl
    have hl:((num8 x).take 0).length=0:=rfl
    have HB: ∀b,r.ownBlock=some b→w.heap.size≤b:=fun b h=>by
     rcases hb with h1|⟨g,h1,h2⟩
     ·exact HS.out.2.1 b (by rw [←h1];exact h)
     ·rw [h1] at h;cases h;have:=HS.out.2.2.size;omega
    have HT:=HS.out.2.2.trans ht (fun b hb h=>by have:=HS.out.2.1 b h;omega)
    rw [hl] at hrun
    have HR:=Lib.hid (And.intro hrun (And.intro hown (And.intro HB (And.intro HT e))))
    clear hrun hown ht hb HB HT e hl
    go_wp2_with (at_builtin;refine Ux.wpList_app (v1:= .slice a3 0 c3) (x1:= .slice (some ⟨_,0,none⟩) 1 1) rfl _ _ _ _ rfl rfl rfl (HR.out.1 _) ?_)
    go_roundg g'
    case measure=>omega
    case rel=>exact ⟨1,by congr 1,by omega,Lib.hid ⟨by rw [HR.out.2.2.2.2];exact HR.out.2.1,HR.out.2.2.1,HR.out.2.2.2.1⟩⟩
   ·obtain ⟨r,w3,hrun,hown,ht,hb⟩:=app52c (.slice a3 ((num8 x).take 1).length c3) ((num8 x).take 1) wr HS.out.1 (by simp [num8_len]) (UInt8.ofNat (x/281474976710656 % 256)) ((x:Int)/281474976710656 % 256) (by rw [UInt8.toNat_ofNat'];omega)
    have e:(num8 x).take 2=(num8 x).take 1++ [UInt8.ofNat (x/281474976710656 % 256)]:=rfl
    have hl:((num8 x).take 1).length=1:=rfl
    have HB: ∀b,r.ownBlock=some b→w.heap.size≤b:=fun b h=>by
     rcases hb with h1|⟨g,h1,h2⟩
     ·exact HS.out.2.1 b (by rw [←h1];exact h)
     ·rw [h1] at h;cases h;have:=HS.out.2.2.size;omega
    have HT:=HS.out.2.2.trans ht (fun b hb h=>by have:=HS.out.2.1 b h;omega)
    rw [hl] at hrun
    have HR:=Lib.hid (And.intro hrun (And.intro hown (And.intro HB (And.intro HT e))))
    clear hrun hown ht hb HB HT e hl
    go_wp2_with (at_builtin;refine Ux.wpList_app (v1:= .slice a3 1 c3) (x1:= .slice (some ⟨_,0,none⟩) 1 1) rfl _ _ _ _ rfl rfl rfl (HR.out.1 _) ?_)
    go_roundg g'
    case measure=>omega
    case rel=>exact ⟨2,by congr 1,by omega,Lib.hid ⟨by rw [HR.out.2.2.2.2];exact HR.out.2.1,HR.out.2.2.1,HR.out.2.2.2.1⟩⟩
   ·obtain ⟨r,w3,hrun,hown,ht,hb⟩:=app52c (.slice a3 ((num8 x).take 2).length c3) ((num8 x).take 2) wr HS.out.1 (by simp [num8_len]) (UInt8.ofNat (x/1099511627776 % 256)) ((x:Int)/1099511627776 % 256) (by rw [UInt8.toNat_ofNat'];omega)
    have e:(num8 x).take 3=(num8 x).take 2++ [UInt8.ofNat (x/1099511627776 % 256)]:=rfl
    have hl:((num8 x).take 2).length=2:=rfl
    have HB: ∀b,r.ownBlock=some b→w.heap.size≤b:=fun b h=>by
     rcases hb with h1|⟨g,h1,h2⟩
     ·exact HS.out.2.1 b (by rw [←h1];exact h)
     ·rw [h1] at h;cases h;have:=HS.out.2.2.size;omega
    have HT:=HS.out.2.2.trans ht (fun b hb h=>by have:=HS.out.2.1 b h;omega)
    rw [hl] at hrun
    have HR:=Lib.hid (And.intro hrun (And.intro hown (And.intro HB (And.intro HT e))))
    clear hrun hown ht hb HB HT e hl
    go_wp2_with (at_builtin;refine Ux.wpList_app (v1:= .slice a3 2 c3) (x1:= .slice (some ⟨_,0,none⟩) 1 1) rfl _ _ _ _ rfl rfl rfl (HR.out.1 _) ?_)
    go_roundg g'
    case measure=>omega
    case rel=>exact ⟨3,by congr 1,by omega,Lib.hid ⟨by rw [HR.out.2.2.2.2];exact HR.out.2.1,HR.out.2.2.1,HR.out.2.2.2.1⟩⟩
   ·obtain ⟨r,w3,hrun,hown,ht,hb⟩:=app52c (.slice a3 ((num8 x).take 3).length c3) ((num8 x).take 3) wr HS.out.1 (by simp [num8_len]) (UInt8.ofNat (x/4294967296 % 256)) ((x:Int)/4294967296 % 256) (by rw [UInt8.toNat_ofNat'];omega)
    have e:(num8 x).take 4=(num8 x).take 3++ [UInt8.ofNat (x/4294967296 % 256)]:=rfl
    have hl:((num8 x).take 3).length=3:=rfl
    have HB: ∀b,r.ownBlock=some b→w.heap.size≤b:=fun b h=>by
     rcases hb with h1|⟨g,h1,h2⟩
     ·exact HS.out.2.1 b (by rw [←h1];exact h)
     ·rw [h1] at h;cases h;have:=HS.out.2.2.size;omega
    have HT:=HS.out.2.2.trans ht (fun b hb h=>by have:=HS.out.2.1 b h;omega)
    rw [hl] at hrun
    have HR:=Lib.hid (And.intro hrun (And.intro hown (And.intro HB (And.intro HT e))))
    clear hrun hown ht hb HB HT e hl
    go_wp2_with (at_builtin;refine Ux.wpList_app (v1:= .slice a3 3 c3) (x1:= .slice (some ⟨_,0,none⟩) 1 1) rfl _ _ _ _ rfl rfl rfl (HR.out.1 _) ?_)
    go_roundg g'
    case measure=>omega
    case rel=>exact ⟨4,by congr 1,by omega,Lib.hid ⟨by rw [HR.out.2.2.2.2];exact HR.out.2.1,HR.out.2.2.1,HR.out.2.2.2.1⟩⟩
   ·obtain ⟨r,w3,hrun,hown,ht,hb⟩:=app52c (.slice a3 ((num8 x).take 4).length c3) ((num8 x).take 4) wr HS.out.1 (by simp [num8_len]) (UInt8.ofNat (x/16777216 % 256)) ((x:Int)/16777216 % 256) (by rw [UInt8.toNat_ofNat'];omega)
    have e:(num8 x).take 5=(num8 x).take 4++ [UInt8.ofNat (x/16777216 % 256)]:=rfl
    have hl:((num8 x).take 4).length=4:=rfl
    have HB: ∀b,r.ownBlock=some b→w.heap.size≤b:=fun b h=>by
     rcases hb with h1|⟨g,h1,h2⟩
     ·exact HS.out.2.1 b (by rw [←h1];exact h)
     ·rw [h1] at h;cases h;have:=HS.out.2.2.size;omega
    have HT:=HS.out.2.2.trans ht (fun b hb h=>by have:=HS.out.2.1 b h;omega)
    rw [hl] at hrun
    have HR:=Lib.hid (And.intro hrun (And.intro hown (And.intro HB (And.intro HT e))))
    clear hrun hown ht hb HB HT e hl
    go_wp2_with (at_builtin;refine Ux.wpList_app (v1:= .slice a3 4 c3) (x1:= .slice (some ⟨_,0,none⟩) 1 1) rfl _ _ _ _ rfl rfl rfl (HR.out.1 _) ?_)
    go_roundg g'
    case measure=>omega
    case rel=>exact ⟨5,by congr 1,by omega,Lib.hid ⟨by rw [HR.out.2.2.2.2];exact HR.out.2.1,HR.out.2.2.1,HR.out.2.2.2.1⟩⟩
   ·obtain ⟨r,w3,hrun,hown,ht,hb⟩:=app52c (.slice a3 ((num8 x).take 5).length c3) ((num8 x).take 5) wr HS.out.1 (by simp [num8_len]) (UInt8.ofNat (x/65536 % 256)) ((x:Int)/65536 % 256) (by rw [UInt8.toNat_ofNat'];omega)
    have e:(num8 x).take 6=(num8 x).take 5++ [UInt8.ofNat (x/65536 % 256)]:=rfl
    have hl:((num8 x).take 5).length=5:=rfl
    have HB: ∀b,r.ownBlock=some b→w.heap.size≤b:=fun b h=>by
     rcases hb with h1|⟨g,h1,h2⟩
     ·exact HS.out.2.1 b (by rw [←h1];exact h)
     ·rw [h1] at h;cases h;have:=HS.out.2.2.size;omega
    have HT:=HS.out.2.2.trans ht (fun b hb h=>by have:=HS.out.2.1 b h;omega)
    rw [hl] at hrun
    have HR:=Lib.hid (And.intro hrun (And.intro hown (And.intro HB (And.intro HT e))))
    clear hrun hown ht hb HB HT e hl
    go_wp2_with (at_builtin;refine Ux.wpList_app (v1:= .slice a3 5 c3) (x1:= .slice (some ⟨_,0,none⟩) 1 1) rfl _ _ _ _ rfl rfl rfl (HR.out.1 _) ?_)
    go_roundg g'
    case measure=>omega
    case rel=>exact ⟨6,by congr 1,by omega,Lib.hid ⟨by rw [HR.out.2.2.2.2];exact HR.out.2.1,HR.out.2.2.1,HR.out.2.2.2.1⟩⟩
   ·obtain ⟨r,w3,hrun,hown,ht,hb⟩:=app52c (.slice a3 ((num8 x).take 6).length c3) ((num8 x).take 6) wr HS.out.1 (by simp [num8_len]) (UInt8.ofNat (x/256 % 256)) ((x:Int)/256 % 256) (by rw [UInt8.toNat_ofNat'];omega)
    have e:(num8 x).take 7=(num8 x).take 6++ [UInt8.ofNat (x/256 % 256)]:=rfl
    have hl:((num8 x).take 6).length=6:=rfl
    have HB: ∀b,r.ownBlock=some b→w.heap.size≤b:=fun b h=>by
     rcases hb with h1|⟨g,h1,h2⟩
     ·exact HS.out.2.1 b (by rw [←h1];exact h)
     ·rw [h1] at h;cases h;have:=HS.out.2.2.size;omega
    have HT:=HS.out.2.2.trans ht (fun b hb h=>by have:=HS.out.2.1 b h;omega)
    rw [hl] at hrun
    have HR:=Lib.hid (And.intro hrun (And.intro hown (And.intro HB (And.intro HT e))))
    clear hrun hown ht hb HB HT e hl
    go_wp2_with (at_builtin;refine Ux.wpList_app (v1:= .slice a3 6 c3) (x1:= .slice (some ⟨_,0,none⟩) 1 1) rfl _ _ _ _ rfl rfl rfl (HR.out.1 _) ?_)
    go_roundg g'
    case measure=>omega
    case rel=>exact ⟨7,by congr 1,by omega,Lib.hid ⟨by rw [HR.out.2.2.2.2];exact HR.out.2.1,HR.out.2.2.1,HR.out.2.2.2.1⟩⟩
   ·obtain ⟨r,w3,hrun,hown,ht,hb⟩:=app52c (.slice a3 ((num8 x).take 7).length c3) ((num8 x).take 7) wr HS.out.1 (by simp [num8_len]) (UInt8.ofNat (x/1 % 256)) ((x:Int) % 256) (by rw [UInt8.toNat_ofNat'];omega)
    have e:(num8 x).take 8=(num8 x).take 7++ [UInt8.ofNat (x/1 % 256)]:=rfl
    have hl:((num8 x).take 7).length=7:=rfl
    have HB: ∀b,r.ownBlock=some b→w.heap.size≤b:=fun b h=>by
     rcases hb with h1|⟨g,h1,h2⟩
     ·exact HS.out.2.1 b (by rw [←h1];exact h)
     ·rw [h1] at h;cases h;have:=HS.out.2.2.size;omega
    have HT:=HS.out.2.2.trans ht (fun b hb h=>by have:=HS.out.2.1 b h;omega)
    rw [hl] at hrun
    have HR:=Lib.hid (And.intro hrun (And.intro hown (And.intro HB (And.intro HT e))))
    clear hrun hown ht hb HB HT e hl
    go_wp2_with (at_builtin;refine Ux.wpList_app (v1:= .slice a3 7 c3) (x1:= .slice (some ⟨_,0,none⟩) 1 1) rfl _ _ _ _ rfl rfl rfl (HR.out.1 _) ?_)
    go_roundg g'
    case measure=>omega
    case rel=>exact ⟨8,by congr 1,by omega,Lib.hid ⟨by rw [HR.out.2.2.2.2];exact HR.out.2.1,HR.out.2.2.1,HR.out.2.2.2.1⟩⟩
  ·obtain rfl:k=8:=by omega
   have HS:=Lib.hid HI.out
   have hcv:=conv52 HI.out.1
   have hl:((num8 x).take 8).length=8:=rfl
   have he:(num8 x).take 8=num8 x:=rfl
   subst hs3
   rw [hl] at hcv⊢
   rw [he] at hcv
   have q1:((56:Int)-8*((8:Nat):Int))= -8:=by decide
   rw [q1]
   clear HI hlt q1 hl he
   go_wp2
   go_ret
   exact ⟨rfl,HS.out.2.2⟩
end Go.Proofs.YtfccjaboicpohaaGreatDoor
namespace Go.Proofs.YtfccjaboicpohaaGreatDoor
open Go.RowKit
def be8 (l:List UInt8):Nat:=l.foldl (fun a b=>a*256+b.toNat) 0
def rowIs (s:List UInt8):Int×Int:=
 if s.length<9 then (0,4)
 else if s[s.length-9]?≠some 5 then (0,3)
 else ((be8 (s.drop (s.length-8)):Int)-9223372036854775808,0)
theorem be8_snoc (l:List UInt8) (b:UInt8):be8 (l++ [b])=be8 l*256+b.toNat:=by unfold be8;rw [List.foldl_append];rfl
theorem be8_take {l:List UInt8} {j:Nat} {b:UInt8} (h:l[j]? =some b):be8 (l.take (j+1))=be8 (l.take j)*256+b.toNat:=by rw [List.take_add_one,h];exact be8_snoc _ _
set_option maxHeartbeats 2000000 in
theorem row6 (s:ByteArray) (w:World) (hs:s.size≤9223372036854775807):Calls Tryz.prog 38 #[.string s] w fun e w'=>e= .returned (.tuple #[.int .i64 (rowIs s.data.toList).1,.int .i64 (rowIs s.data.toList).2])∧w'=w:=by
 have hlen:s.data.toList.length=s.size:=by simp
 by_cases h9:s.size<9
 ·have e1:rowIs s.data.toList=(0,4):=by unfold rowIs;rw [hlen,if_pos h9]
  rw [e1]
  have h9':(s.size:Int)<9:=by omega
  go_enter Tryz.func38,Tryz.ntmps38
  go_wp2
  go_ret2
  exact ⟨rfl,rfl⟩
 ·obtain ⟨m,hm⟩: ∃m,s.size=m+9:=⟨s.size-9,by omega⟩
  have hml:m<s.size:=by omega
  obtain ⟨x,hx⟩: ∃x:UInt8,s[m]'hml=x:=⟨_,rfl⟩
  have hg:s.data.toList[m]? =some x:=by rw [←hx];exact Lib.data_getElem? s m hml
  have e0:rowIs s.data.toList=if s.data.toList[m]?≠some 5 then (0,3) else ((be8 (s.data.toList.drop (m+1)):Int)-9223372036854775808,0):=by
   unfold rowIs
   rw [hlen,if_neg h9,hm]
   simp only [Nat.add_sub_cancel,show m+9-8=m+1 by omega]
  by_cases h5:x=5
  ·subst h5
   have e1:rowIs s.data.toList=((be8 (s.data.toList.drop (m+1)):Int)-9223372036854775808,0):=by rw [e0,hg,if_neg (by simp)]
   rw [e1]
   clear e0 e1 hg h9
   have HS:=Lib.hid (And.intro hm hlen)
   clear hlen
   go_enter Tryz.func38,Tryz.ntmps38
   go_wp2
   go_loopg [17,5] 8 (fun g s17 s5 wr=> ∃(j a:Nat),s17= .int .i64 j∧s5= .int .u64 a∧j+g=8∧a<256^j∧Hid (a=be8 ((s.data.toList.drop (m+1)).take j))∧wr=w)
   case atStart=>exact ⟨0,0,rfl,rfl,rfl,by simp,Lib.hid rfl,rfl⟩
   case round=>
    obtain ⟨j,a,rfl,rfl,hjg,ha,HA,rfl⟩:=hrel
    have p0:(0:Int)≤j:=by omega
    by_cases hj:j<8
    ·obtain ⟨g',rfl⟩: ∃g',gk=g'+1:=⟨gk-1,by omega⟩
     have j1:(j:Int)<8:=by omega
     have hjl:m+1+j<s.size:=by omega
     obtain ⟨y,hy⟩: ∃y:UInt8,s[m+1+j]'hjl=y:=⟨_,rfl⟩
     have hyb:y.toNat<256:=y.toNat_lt
     have ha8:a<72057594037927936:=by
      have:256^j≤256^7:=Nat.pow_le_pow_right (by omega) (by omega)
      omega
     go_wp2
     go_roundg g'
     case measure=>omega
     case rel=>
      refine ⟨j+1,a*256+y.toNat,rfl,?_,by omega,by rw [Nat.pow_succ];omega,Lib.hid ?_,rfl⟩
      ·rw [Ux.or_byte a y.toNat hyb (by omega)]
       rfl
      ·rw [HA.out]
       exact (be8_take (by rw [List.getElem?_drop,←hy];exact Lib.data_getElem? s _ hjl)).symm
    ·obtain rfl:j=8:=by omega
     have ha8:a<18446744073709551616:=by omega
     have hxor:=Ux.xor_top a ha8
     have e2:((be8 (s.data.toList.drop (m+1)):Nat):Int)-9223372036854775808=wrap64 (((a:Int)+9223372036854775808) % 18446744073709551616):=by
      have e3:a=be8 (s.data.toList.drop (m+1)):=by
       have:=HA.out
       rwa [List.take_of_length_le (by rw [List.length_drop,HS.out.2];omega)] at this
      rw [←e3]
      unfold wrap64
      omega
     have E2:=Lib.hid e2
     clear e2 hj
     go_wp2
     go_ret2
     exact ⟨by rw [E2.out];rfl,rfl⟩
  ·have e1:rowIs s.data.toList=(0,3):=by rw [e0,hg,if_pos (by simpa using h5)]
   rw [e1]
   have hx5: ¬(x.toNat:Int)=5:=fun e=>h5 (UInt8.toNat_inj.1 (by simpa using (by omega:x.toNat=5)))
   clear e0 e1 hg h9 hlen h5
   go_enter Tryz.func38,Tryz.ntmps38
   go_wp2
   go_ret2
   exact ⟨rfl,rfl⟩
end Go.Proofs.YtfccjaboicpohaaGreatDoor
