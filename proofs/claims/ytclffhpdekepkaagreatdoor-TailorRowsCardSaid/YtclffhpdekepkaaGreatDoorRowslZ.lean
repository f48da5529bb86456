/- A part of the proof that the statement holds for every input that it names. No other condition. -/
import Derived.Test.YtclffhpdekepkaaGreatDoorRowAX2Z
import Derived.Test.YtclffhpdekepkaaGreatDoorPlacesZ
import Derived.Test.YtclffhpdekepkaaGreatDoorUxEndsX2Z
set_option linter.unusedVariables false
set_option linter.unusedSimpArgs false
namespace Go.Proofs.YtclffhpdekepkaaGreatDoor
open Go.RowKit
open Ux (Ent Row Grow NView ev sv iv SameE elemsE rootT wF wt8 cmpL)
open Ux.Sign (cp raw signs)
open Ux.Rules (Rul)
theorem rowRul_len (r:Nat→Nat): ∀(n i:Nat),(Ux.rowRul r i n).length=n
 |0,_=>rfl
 |n+1,i=>by
  show (Ux.rowRul r (i+1) n).length+1=_
  rw [rowRul_len r n (i+1)]
theorem rowS_ascii (r:Nat→Nat): ∀(n i:Nat),i+n≤8→∀c∈Ux.rowS r i n,c<128
 |0,_,_,c,h=>by cases h
 |n+1,i,hi,c,h=>by
  have h:c∈32::(Ux.relL (r i)++32::(49+i)::Ux.rowS r (i+1) n):=h
  have hrl: ∀c∈Ux.relL (r i),c<128:=fun c hc=>by
   unfold Ux.relL at hc
   split at hc
   ·simp at hc;omega
   ·split at hc
    ·simp at hc;omega
    ·split at hc
     ·simp at hc;omega
     ·simp at hc;omega
  simp only [List.mem_cons,List.mem_append] at h
  rcases h with h|h|h|h|h
  ·omega
  ·exact hrl c h
  ·omega
  ·omega
  ·exact rowS_ascii r n (i+1) (by omega) c h
theorem rowRul_ok (r:Nat→Nat): ∀(n i:Nat),i+n≤8→(∀j,j<i+n→1≤r j∧r j≤4)→∀x∈Ux.rowRul r i n,Ux.Rules.okRul (fun c=>cp c∨raw c) x
 |0,_,_,_,x,h=>by cases h
 |n+1,i,hi,hr,x,h=>by
  have h:x∈(⟨1+r i,[49+i],[]⟩::Ux.rowRul r (i+1) n:List Rul):=h
  have hri:=hr i (by omega)
  rcases List.mem_cons.1 h with rfl|h
  ·exact ⟨⟨by show 1≤1+r i;omega,by show 1+r i≤5;omega⟩,⟨by simp,by simp,fun c hc=>by rw [List.mem_singleton.1 hc];exact .inl (.inl (by omega))⟩,⟨by simp,fun c hc=>by cases hc⟩,fun _=>rfl⟩
  ·exact rowRul_ok r n (i+1) (by omega) (fun j hj=>hr j (by omega)) x h
theorem rows_read (S:ByteArray) (n:Nat) (r:Nat→Nat) (hn:n≤8) (hr: ∀j,j<n→1≤r j∧r j≤4) (hS:signs S.data.toList=38::32::109::Ux.rowS r 0 n) (hsz:S.size≤1000000) (w:World) (hT:Tabs w):
 Calls Tryz.prog 9 #[.string S] w fun e w'=>(∃B mb E T d en el,e= .returned (.tuple #[.pointer (some ⟨B,0,none⟩),.int .i64 0,.int .i64 0])∧TableAt w' B mb E∧SameE E T∧RowsT n r T d en el∧InvT T [])∧Ux.Touch (fun _=>False) w w':=
 (readR_ S w hsz hT).mono fun e w' ⟨h,t⟩=>⟨by
   unfold ReadR at h
   have hp:=Ux.parse_rows r n hn hr
   obtain ⟨T,d,en,el,h1,h2⟩:=rows_all r n hn hr
   rw [hS] at h
   simp only [hp] at h
   have hl: ¬40<(⟨1,[109],[]⟩::Ux.rowRul r 0 n:List Rul).length:=by
    rw [List.length_cons,rowRul_len]
    omega
   rw [if_neg hl,h1] at h
   rcases h with ⟨h3,_⟩|⟨_,B,mb,E,h3,h4,h5⟩
   ·exact absurd rfl h3
   ·have hinv:=(applyT_ok (⟨1,[109],[]⟩::Ux.rowRul r 0 n) InvT.root (fun x hx=>by
     rcases List.mem_cons.1 hx with rfl|hx
     ·exact ⟨⟨Nat.le_refl 1,show (1:Nat)≤5 by decide⟩,⟨by simp,by simp,fun c hc=>by rw [List.mem_singleton.1 hc];exact .inl (.inl (by decide))⟩,⟨by simp,fun c hc=>by cases hc⟩,fun _=>rfl⟩
     ·exact rowRul_ok r n 0 (by omega) (fun j hj=>hr j (by omega)) x hx) (by rw [h1])).1
    rw [h1] at hinv
    exact ⟨B,mb,E,T,d,en,el,h3,h4,h5,h2,hinv⟩,t⟩
def lvl4 (x:Int):Nat:=(bits .and .i64 x 65535).toNat % 4+1
theorem lvl4_val (x:Int):(bits .and .i64 x 65535).tmod 4+1=(lvl4 x:Nat):=by
 obtain ⟨m,hm,_⟩:=and16p x
 unfold lvl4
 rw [hm,Int.toNat_natCast,Int.tmod_eq_emod_of_nonneg (by omega)]
 omega
def relB (k:Nat):ByteArray:=⟨((Ux.relL k).map UInt8.ofNat).toArray⟩
theorem rowS_snoc (r:Nat→Nat): ∀(n i:Nat),Ux.rowS r i (n+1)=Ux.rowS r i n++(32::(Ux.relL (r (i+n))++ [32,49+(i+n)]))
 |0,i=>rfl
 |n+1,i=>by
  show 32::(Ux.relL (r i)++32::(49+i)::Ux.rowS r (i+1) (n+1))=(32::(Ux.relL (r i)++32::(49+i)::Ux.rowS r (i+1) n))++_
  rw [rowS_snoc r n (i+1),show i+1+n=i+(n+1) by omega]
  simp
theorem relB_nat (k:Nat):(relB k).data.toList.map UInt8.toNat=Ux.relL k:=by
 unfold relB Ux.relL
 split
 ·rfl
 ·split
  ·rfl
  ·split<;>rfl
set_option maxHeartbeats 16000000 in
set_option maxRecDepth 100000 in
theorem rowsLaw_ (v0:Value) (l0:List Int) (w:World) (hv:NView .i64 w v0 l0) (hT:Tabs w):
 Calls Tryz.prog 3 #[v0] w fun e w'=>e= .returned (.bool true)∧Ux.Touch (fun _=>False) w w':=by
 have AW:=Lib.hid fun W (T:Ux.Touch (fun _=>False) w W)=>awake7_ W (hT.touch T)
 obtain ⟨a0,c0,rfl,hlen,hcell,_⟩:=hv
 obtain ⟨n0,hn0⟩: ∃n,l0.length=n:=⟨_,rfl⟩
 rw [hn0] at hlen⊢
 unfold maxLen at hlen
 obtain ⟨n,hn⟩: ∃n:Nat,min (n0:Int) 8=(n:Nat)∧n≤8∧n≤n0:=⟨min n0 8,by omega,by omega,by omega⟩
 obtain ⟨hmin,hn8,hnn⟩:=hn
 obtain ⟨r,hr⟩: ∃r:Nat→Nat,∀j,r j=lvl4 (l0.getD j 0):=⟨_,fun j=>rfl⟩
 have b0:(n0:Int)≤9223372036854775807:=by omega
 have b1:(n:Int)≤8:=by omega
 have hr4: ∀j,1≤r j∧r j≤4:=fun j=>by rw [hr];unfold lvl4;omega
 have HH:=Lib.hid (And.intro hT (And.intro hcell (And.intro hn0 (And.intro hn8 (And.intro hnn (And.intro hr hr4))))))
 clear hT hcell hlen hn0 hn8 hnn hr hr4
 go_enter Tryz.func3,Tryz.ntmps3
 go_wp2_with (fail)
 go_loopg [3,5,6] n (fun gk s3 s5 s6 wr=> ∃(i:Nat) (S:ByteArray),s6= .int .i64 i∧s3= .string S∧i+gk=n∧Hid (Grow wr w.heap.size 3 s5 (iv (sv ((List.range i).map r)))∧S.data.toList.map UInt8.toNat=38::32::109::Ux.rowS r 0 i∧S.size≤3+6*i∧Ux.Touch (fun _=>False) w wr))
 case atStart=>exact ⟨0,⟨#[38,32,109]⟩,rfl,rfl,by omega,Lib.hid ⟨Grow.nil _ _ _,rfl,by show 3≤3+6*0;omega,Ux.Touch.refl _ _⟩⟩
 case round=>
  obtain ⟨i,S,rfl,rfl,hig,HI⟩:=hrel
  have i0:(0:Int)≤i:=by omega
  by_cases hlt:i<n
  ·obtain ⟨g',rfl⟩: ∃g',gk=g'+1:=⟨gk-1,by omega⟩
   have i1:(i:Int)<n:=by omega
   have i2:(i:Int)<n0:=by have:=HH.out.2.2.2.2.1;omega
   have i8:(i:Int)<8:=by omega
   obtain ⟨x,hx⟩: ∃x,l0[i]? =some x:=⟨_,List.getElem?_eq_getElem (by have:=HH.out.2.2.1;omega)⟩
   obtain ⟨g,o,rfl,_,hc⟩:=HH.out.2.1 i x hx
   have hc0:=hc
   have hc:=HI.out.2.2.2.cell hc (fun f=>f)
   have hri:r i=lvl4 x:=by rw [HH.out.2.2.2.2.2.1,List.getD_eq_getElem?_getD,hx];rfl
   obtain ⟨k,hk⟩: ∃k,r i=k:=⟨_,rfl⟩
   have hlv:=lvl4_val x
   rw [←hri,hk] at hlv
   have hk4:1≤k∧k≤4:=by rw [←hk];exact HH.out.2.2.2.2.2.2 i
   have hsz:((List.range i).map r).length≤i:=by simp
   obtain ⟨u,W2,hrun,hG2,hT3⟩:=appI HI.out.1 1 [Value.int .i64 (k:Int)] rfl (fun u hu=>by rw [List.mem_singleton.1 hu];rfl) HI.out.2.2.2.size (by rw [Ux.iv_length,Ux.sv_length];omega)
   have TW2:Ux.Touch (fun _=>False) w W2:=Ux.Touch.own HI.out.2.2.2 (Nat.le_refl _) hT3
   have hG3:Grow W2 w.heap.size 3 u (iv (sv ((List.range (i+1)).map r))):=by
    rw [List.range_succ,List.map_append,Ux.sv_append,show∀a b,iv (a++b)=iv a++iv b from fun a b=>List.map_append]
    show Grow W2 w.heap.size 3 u (_++iv (sv [r i]))
    rw [hk]
    exact hG2
   obtain ⟨z,hz⟩: ∃z,S.size=z:=⟨_,rfl⟩
   have hz2:z≤51:=by have:=HI.out.2.2.1;omega
   have z0:(z:Int)≤51:=by omega
   obtain ⟨DG,hDG⟩: ∃D:ByteArray,(⟨#[UInt8.ofNat (49+i)]⟩:ByteArray)=D:=⟨_,rfl⟩
   have zD:DG.size=1:=by rw [←hDG];rfl
   obtain ⟨S1,hS1⟩: ∃X,S++(⟨#[32]⟩:ByteArray)=X:=⟨_,rfl⟩
   obtain ⟨S2,hS2⟩: ∃X,S1++relB k=X:=⟨_,rfl⟩
   obtain ⟨S3,hS3⟩: ∃X,S2++(⟨#[32]⟩:ByteArray)=X:=⟨_,rfl⟩
   obtain ⟨S4,hS4⟩: ∃X,S3++DG=X:=⟨_,rfl⟩
   have zR:(relB k).size≤3:=by
    have h:k=1∨k=2∨k=3∨k=4:=by omega
    rcases h with rfl|rfl|rfl|rfl<;>decide
   obtain ⟨z1,hz1⟩: ∃z,S1.size=z:=⟨_,rfl⟩
   obtain ⟨z2,hz2'⟩: ∃z,S2.size=z:=⟨_,rfl⟩
   obtain ⟨z3,hz3⟩: ∃z,S3.size=z:=⟨_,rfl⟩
   have y1:z1=z+1:=by rw [←hz1,←hS1,ByteArray.size_append,hz];rfl
   have y2:z2=z1+(relB k).size:=by rw [←hz2',←hS2,ByteArray.size_append,hz1]
   have y3:z3=z2+1:=by rw [←hz3,←hS3,ByteArray.size_append,hz2'];rfl
   have y4:S4.size=z3+1:=by rw [←hS4,ByteArray.size_append,hz3,zD]
   have dS:S4.data.toList.map UInt8.toNat=38::32::109::Ux.rowS r 0 (i+1):=by
    rw [←hS4,←hS3,←hS2,←hS1,←hDG]
    simp only [ByteArray.data_append,Array.toList_append,List.map_append,HI.out.2.1,relB_nat]
    rw [rowS_snoc,Nat.zero_add,hk]
    simp only [List.map_cons,List.map_nil,List.cons_append,List.append_assoc,List.nil_append]
    rw [UInt8.toNat_ofNat',show (49+i) % 2^8=49+i by omega]
    rfl
   have HS4:=Lib.hid (And.intro dS (And.intro (show S4.size≤3+6*(i+1) by have:=HI.out.2.2.1;omega) (And.intro hG3 TW2)))
   have j3:z1+3≤1000:=by omega
   have j5:z2+1≤1000:=by omega
   have j7:z3+1≤1000:=by omega
   have HJ:=Lib.hid (And.intro hz2 (And.intro j3 (And.intro j5 (And.intro j7 (And.intro hz (And.intro hz1 (And.intro hz2' (And.intro hz3 (And.intro zD (And.intro hS1 (And.intro hS2 (And.intro hS3 hS4))))))))))))
   have HR:=Lib.hid hrun
   have k0:(1:Int)≤k:=by omega
   have k1:(k:Int)≤4:=by omega
   have HXC:=Lib.hid fun W (T:Ux.Touch (fun _=>False) W2 W)=>(TW2.trans T fun _ _ f=>f).cell hc0 (fun f=>f)
   have hrel4:(k=1∧relB k=⟨#[60]⟩)∨(k=2∧relB k=⟨#[60,60]⟩)∨(k=3∧relB k=⟨#[60,60,60]⟩)∨(k=4∧relB k=⟨#[61]⟩):=by
    have h:k=1∨k=2∨k=3∨k=4:=by omega
    rcases h with rfl|rfl|rfl|rfl
    ·exact .inl ⟨rfl,rfl⟩
    ·exact .inr (.inl ⟨rfl,rfl⟩)
    ·exact .inr (.inr (.inl ⟨rfl,rfl⟩))
    ·exact .inr (.inr (.inr ⟨rfl,rfl⟩))
   have HREL:=Lib.hid hrel4
   have HDG:=Lib.hid hDG
   clear hx hc0 hri hk hk4 hsz hrun hG2 hT3 TW2 hG3 y1 y2 y3 y4 dS zR hrel4 hDG hlt hz2 j3 j5 j7 hz hz1 hz2' hz3 zD hS1 hS2 hS3 hS4
   go_upto_region 9 with (at_builtin;refine Ux.wpList_app (v1:=u5) (x1:= .slice (some ⟨_,0,none⟩) 1 1) rfl _ _ _ _ rfl rfl rfl (HR.out _) ?_)
   obtain ⟨q,hq⟩: ∃q,W2.heap.size=q:=⟨_,rfl⟩
   have z1:(W2.alloc (.cells #[.string ⟨#[60]⟩,.string ⟨#[60,60]⟩,.string ⟨#[60,60,60]⟩,.string ⟨#[61]⟩] 9)).heap.size=q+1:=by rw [World.size_alloc,hq]
   have z2:(W2.alloc (.cells #[.int .u8 (49+(i:Int))] 5)).heap.size=q+1:=by rw [World.size_alloc,hq]
   have s1:(W2.alloc (.cells #[.string ⟨#[60]⟩,.string ⟨#[60,60]⟩,.string ⟨#[60,60,60]⟩,.string ⟨#[61]⟩] 9)).heap[q]? =some (.cells #[.string ⟨#[60]⟩,.string ⟨#[60,60]⟩,.string ⟨#[60,60,60]⟩,.string ⟨#[61]⟩] 9):=by rw [←hq];exact heap_alloc_new _ _
   have s2:((W2.alloc (.cells #[.string ⟨#[60]⟩,.string ⟨#[60,60]⟩,.string ⟨#[60,60,60]⟩,.string ⟨#[61]⟩] 9)).alloc (.cells #[.int .u8 (49+(i:Int))] 5)).heap[q]? =some (.cells #[.string ⟨#[60]⟩,.string ⟨#[60,60]⟩,.string ⟨#[60,60,60]⟩,.string ⟨#[61]⟩] 9):=((Ux.Touch.refl (fun _=>False) _).alloc _).heap s1 (fun f=>f)
   have s3:((W2.alloc (.cells #[.int .u8 (49+(i:Int))] 5)).alloc (.cells #[.string ⟨#[60]⟩,.string ⟨#[60,60]⟩,.string ⟨#[60,60,60]⟩,.string ⟨#[61]⟩] 9)).heap[q+1]? =some (.cells #[.string ⟨#[60]⟩,.string ⟨#[60,60]⟩,.string ⟨#[60,60,60]⟩,.string ⟨#[61]⟩] 9):=by rw [←z2];exact heap_alloc_new _ _
   have t1:((W2.alloc (.cells #[.string ⟨#[60]⟩,.string ⟨#[60,60]⟩,.string ⟨#[60,60,60]⟩,.string ⟨#[61]⟩] 9)).alloc (.cells #[.int .u8 (49+(i:Int))] 5)).heap[q+1]? =some (.cells #[.int .u8 (49+(i:Int))] 5):=by rw [←z1];exact heap_alloc_new _ _
   have t2:(W2.alloc (.cells #[.int .u8 (49+(i:Int))] 5)).heap[q]? =some (.cells #[.int .u8 (49+(i:Int))] 5):=by rw [←hq];exact heap_alloc_new _ _
   have t3:((W2.alloc (.cells #[.int .u8 (49+(i:Int))] 5)).alloc (.cells #[.string ⟨#[60]⟩,.string ⟨#[60,60]⟩,.string ⟨#[60,60,60]⟩,.string ⟨#[61]⟩] 9)).heap[q]? =some (.cells #[.int .u8 (49+(i:Int))] 5):=((Ux.Touch.refl (fun _=>False) _).alloc _).heap t2 (fun f=>f)
   have f1:=conv1 ((W2.alloc (.cells #[.string ⟨#[60]⟩,.string ⟨#[60,60]⟩,.string ⟨#[60,60,60]⟩,.string ⟨#[61]⟩] 9)).alloc (.cells #[.int .u8 (49+(i:Int))] 5)).drew (q+1) (49+i) DG (49+(i:Int)) (by omega) (by omega) HDG.out t1
   have f2:=conv1 (W2.alloc (.cells #[.int .u8 (49+(i:Int))] 5)).drew q (49+i) DG (49+(i:Int)) (by omega) (by omega) HDG.out t2
   have f3:=conv1 ((W2.alloc (.cells #[.int .u8 (49+(i:Int))] 5)).alloc (.cells #[.string ⟨#[60]⟩,.string ⟨#[60,60]⟩,.string ⟨#[60,60,60]⟩,.string ⟨#[61]⟩] 9)).drew q (49+i) DG (49+(i:Int)) (by omega) (by omega) HDG.out t3
   have cS: ∀(W:World) (b j:Nat),W.heap[b]? =some (.cells #[.string ⟨#[60]⟩,.string ⟨#[60,60]⟩,.string ⟨#[60,60,60]⟩,.string ⟨#[61]⟩] 9)→W.cell? ⟨b,j,none⟩=(#[.string ⟨#[60]⟩,.string ⟨#[60,60]⟩,.string ⟨#[60,60,60]⟩,.string ⟨#[61]⟩]:Array Value)[j]? :=fun W b j h=>by rw [cell_of_row W b j _ _ (0,0) h]
   have HC:=Lib.hid (And.intro (fun j=>cS _ _ j s1) (And.intro (fun j=>cS _ _ j s2) (fun j=>cS _ _ j s3)))
   obtain ⟨hz2,g3,g5,g7,hz,hz1,hz2',hz3,zD,hS1,hS2,hS3,hS4⟩:=HJ.out
   clear s1 s2 s3 t1 t2 t3 z1 z2 cS hlv
   have j1: ¬((9223372036854775807:Int)<(z:Int)+1):=by omega
   have j2: ¬(9223372036854775807<z+1):=by omega
   have j5: ¬((9223372036854775807:Int)<(z2:Int)+1):=by omega
   have j6: ¬(9223372036854775807<z2+1):=by omega
   have j7: ¬((9223372036854775807:Int)<(z3:Int)+1):=by omega
   have j8: ¬(9223372036854775807<z3+1):=by omega
   have k11: ¬((9223372036854775807:Int)<(z1:Int)+1):=by omega
   have k12: ¬(9223372036854775807<z1+1):=by omega
   have k21: ¬((9223372036854775807:Int)<(z1:Int)+2):=by omega
   have k22: ¬(9223372036854775807<z1+2):=by omega
   have k31: ¬((9223372036854775807:Int)<(z1:Int)+3):=by omega
   have k32: ¬(9223372036854775807<z1+3):=by omega
   clear g3 g5 g7 hz2
   rcases HREL.out with ⟨hk,hrl⟩|⟨hk,hrl⟩|⟨hk,hrl⟩|⟨hk,hrl⟩
   ·have c1:=HC.out.1 0
    have c2:=HC.out.2.1 0
    have c3:=HC.out.2.2 0
    rw [hrl] at hS2
    subst hk
    have hxc:=HXC.out W2 (Ux.Touch.refl _ _)
    clear hrl k0 k1 hc
    refine Ux.wpr (fun _ w'=>w'.cell? ⟨g,o+i,none⟩=some (.int .i64 x)) (.q [0,1,3,4,9,10,11] (.br 2 (.q [5] (.br 6 (.q [7,8] (.e 12 true true (.e 13 true true (.q [14] (.line [15]))))) 12 (.br 6 (.q [7,8] (.e 13 true true (.q [14] (.line [15])))) 13 (.e 6 true true (.q [7,8,14] (.line [15])))))) 12 (.br 2 (.q [5] (.br 6 (.q [7,8] (.e 13 true true (.q [14] (.line [15])))) 13 (.e 6 true true (.q [7,8,14] (.line [15]))))) 13 (.e 2 true true (.q [5] (.e 6 true true (.q [7,8,14] (.line [15])))))))) ?_;repeat ((with_reducible refine Ux.qg ?_);refine Ux.qu ?_)
    refine ⟨?_,?_⟩
    ·go_wp2_with (fail)
     first|refine ⟨⟨HXC.out _ Ux.tq,HXC.out _ Ux.tq⟩,?_⟩|refine ⟨HXC.out _ Ux.tq,?_⟩
     repeat ((with_reducible refine Ux.qg ?_);refine Ux.qu ?_)
     refine ⟨?_,?_⟩
     ·go_wp2_with (fail)
      first|refine ⟨⟨HXC.out _ Ux.tq,HXC.out _ Ux.tq⟩,?_⟩|refine ⟨HXC.out _ Ux.tq,?_⟩
      repeat ((with_reducible refine Ux.qg ?_);refine Ux.qu ?_)
      go_wp2_with (fail)
      first|refine ⟨⟨HXC.out _ Ux.tq,HXC.out _ Ux.tq⟩,?_⟩|refine ⟨HXC.out _ Ux.tq,?_⟩
      go_wp2_with (fail)
      first|refine ⟨⟨HXC.out _ Ux.tq,HXC.out _ Ux.tq⟩,?_⟩|refine ⟨HXC.out _ Ux.tq,?_⟩
      repeat ((with_reducible refine Ux.qg ?_);refine Ux.qu ?_)
      go_wp2
      go_roundg g'
      case measure=>omega
      case rel=>exact ⟨i+1,S4,by congr 1,rfl,by omega,Lib.hid ⟨HS4.out.2.2.1.touch0 Ux.tq,HS4.out.1,HS4.out.2.1,HS4.out.2.2.2.trans Ux.tq fun _ _ f=>f⟩⟩
     ·go_wp2_with (fail)
      first|refine ⟨⟨HXC.out _ Ux.tq,HXC.out _ Ux.tq⟩,?_⟩|refine ⟨HXC.out _ Ux.tq,?_⟩
      refine ⟨?_,?_⟩
      ·go_wp2_with (fail)
       first|refine ⟨⟨HXC.out _ Ux.tq,HXC.out _ Ux.tq⟩,?_⟩|refine ⟨HXC.out _ Ux.tq,?_⟩
       repeat ((with_reducible refine Ux.qg ?_);refine Ux.qu ?_)
       go_wp2_with (fail)
       first|refine ⟨⟨HXC.out _ Ux.tq,HXC.out _ Ux.tq⟩,?_⟩|refine ⟨HXC.out _ Ux.tq,?_⟩
       repeat ((with_reducible refine Ux.qg ?_);refine Ux.qu ?_)
       go_wp2
       go_roundg g'
       case measure=>omega
       case rel=>exact ⟨i+1,S4,by congr 1,rfl,by omega,Lib.hid ⟨HS4.out.2.2.1.touch0 Ux.tq,HS4.out.1,HS4.out.2.1,HS4.out.2.2.2.trans Ux.tq fun _ _ f=>f⟩⟩
      ·go_wp2_with (fail)
       first|refine ⟨⟨HXC.out _ Ux.tq,HXC.out _ Ux.tq⟩,?_⟩|refine ⟨HXC.out _ Ux.tq,?_⟩
       go_wp2_with (fail)
       first|refine ⟨⟨HXC.out _ Ux.tq,HXC.out _ Ux.tq⟩,?_⟩|refine ⟨HXC.out _ Ux.tq,?_⟩
       repeat ((with_reducible refine Ux.qg ?_);refine Ux.qu ?_)
       go_wp2
       go_roundg g'
       case measure=>omega
       case rel=>exact ⟨i+1,S4,by congr 1,rfl,by omega,Lib.hid ⟨HS4.out.2.2.1.touch0 Ux.tq,HS4.out.1,HS4.out.2.1,HS4.out.2.2.2.trans Ux.tq fun _ _ f=>f⟩⟩
    ·go_wp2_with (fail)
     first|refine ⟨⟨HXC.out _ Ux.tq,HXC.out _ Ux.tq⟩,?_⟩|refine ⟨HXC.out _ Ux.tq,?_⟩
     refine ⟨?_,?_⟩
     ·go_wp2_with (fail)
      first|refine ⟨⟨HXC.out _ Ux.tq,HXC.out _ Ux.tq⟩,?_⟩|refine ⟨HXC.out _ Ux.tq,?_⟩
      repeat ((with_reducible refine Ux.qg ?_);refine Ux.qu ?_)
      refine ⟨?_,?_⟩
      ·go_wp2_with (fail)
       first|refine ⟨⟨HXC.out _ Ux.tq,HXC.out _ Ux.tq⟩,?_⟩|refine ⟨HXC.out _ Ux.tq,?_⟩
       repeat ((with_reducible refine Ux.qg ?_);refine Ux.qu ?_)
       go_wp2_with (fail)
       first|refine ⟨⟨HXC.out _ Ux.tq,HXC.out _ Ux.tq⟩,?_⟩|refine ⟨HXC.out _ Ux.tq,?_⟩
       repeat ((with_reducible refine Ux.qg ?_);refine Ux.qu ?_)
       go_wp2
       go_roundg g'
       case measure=>omega
       case rel=>exact ⟨i+1,S4,by congr 1,rfl,by omega,Lib.hid ⟨HS4.out.2.2.1.touch0 Ux.tq,HS4.out.1,HS4.out.2.1,HS4.out.2.2.2.trans Ux.tq fun _ _ f=>f⟩⟩
      ·go_wp2_with (fail)
       first|refine ⟨⟨HXC.out _ Ux.tq,HXC.out _ Ux.tq⟩,?_⟩|refine ⟨HXC.out _ Ux.tq,?_⟩
       go_wp2_with (fail)
       first|refine ⟨⟨HXC.out _ Ux.tq,HXC.out _ Ux.tq⟩,?_⟩|refine ⟨HXC.out _ Ux.tq,?_⟩
       repeat ((with_reducible refine Ux.qg ?_);refine Ux.qu ?_)
       go_wp2
       go_roundg g'
       case measure=>omega
       case rel=>exact ⟨i+1,S4,by congr 1,rfl,by omega,Lib.hid ⟨HS4.out.2.2.1.touch0 Ux.tq,HS4.out.1,HS4.out.2.1,HS4.out.2.2.2.trans Ux.tq fun _ _ f=>f⟩⟩
     ·go_wp2_with (fail)
      first|refine ⟨⟨HXC.out _ Ux.tq,HXC.out _ Ux.tq⟩,?_⟩|refine ⟨HXC.out _ Ux.tq,?_⟩
      go_wp2_with (fail)
      first|refine ⟨⟨HXC.out _ Ux.tq,HXC.out _ Ux.tq⟩,?_⟩|refine ⟨HXC.out _ Ux.tq,?_⟩
      repeat ((with_reducible refine Ux.qg ?_);refine Ux.qu ?_)
      go_wp2_with (fail)
      first|refine ⟨⟨HXC.out _ Ux.tq,HXC.out _ Ux.tq⟩,?_⟩|refine ⟨HXC.out _ Ux.tq,?_⟩
      repeat ((with_reducible refine Ux.qg ?_);refine Ux.qu ?_)
      go_wp2
      go_roundg g'
      case measure=>omega
      case rel=>exact ⟨i+1,S4,by congr 1,rfl,by omega,Lib.hid ⟨HS4.out.2.2.1.touch0 Ux.tq,HS4.out.1,HS4.out.2.1,HS4.out.2.2.2.trans Ux.tq fun _ _ f=>f⟩⟩
   ·have c1:=HC.out.1 1
    have c2:=HC.out.2.1 1
    have c3:=HC.out.2.2 1
    rw [hrl] at hS2
    subst hk
    have hxc:=HXC.out W2 (Ux.Touch.refl _ _)
    clear hrl k0 k1 hc
    refine Ux.wpr (fun _ w'=>w'.cell? ⟨g,o+i,none⟩=some (.int .i64 x)) (.q [0,1,3,4,9,10,11] (.br 2 (.q [5] (.br 6 (.q [7,8] (.e 12 true true (.e 13 true true (.q [14] (.line [15]))))) 12 (.br 6 (.q [7,8] (.e 13 true true (.q [14] (.line [15])))) 13 (.e 6 true true (.q [7,8,14] (.line [15])))))) 12 (.br 2 (.q [5] (.br 6 (.q [7,8] (.e 13 true true (.q [14] (.line [15])))) 13 (.e 6 true true (.q [7,8,14] (.line [15]))))) 13 (.e 2 true true (.q [5] (.e 6 true true (.q [7,8,14] (.line [15])))))))) ?_;repeat ((with_reducible refine Ux.qg ?_);refine Ux.qu ?_)
    refine ⟨?_,?_⟩
    ·go_wp2_with (fail)
     first|refine ⟨⟨HXC.out _ Ux.tq,HXC.out _ Ux.tq⟩,?_⟩|refine ⟨HXC.out _ Ux.tq,?_⟩
     repeat ((with_reducible refine Ux.qg ?_);refine Ux.qu ?_)
     refine ⟨?_,?_⟩
     ·go_wp2_with (fail)
      first|refine ⟨⟨HXC.out _ Ux.tq,HXC.out _ Ux.tq⟩,?_⟩|refine ⟨HXC.out _ Ux.tq,?_⟩
      repeat ((with_reducible refine Ux.qg ?_);refine Ux.qu ?_)
      go_wp2_with (fail)
      first|refine ⟨⟨HXC.out _ Ux.tq,HXC.out _ Ux.tq⟩,?_⟩|refine ⟨HXC.out _ Ux.tq,?_⟩
      go_wp2_with (fail)
      first|refine ⟨⟨HXC.out _ Ux.tq,HXC.out _ Ux.tq⟩,?_⟩|refine ⟨HXC.out _ Ux.tq,?_⟩
      repeat ((with_reducible refine Ux.qg ?_);refine Ux.qu ?_)
      go_wp2
      go_roundg g'
      case measure=>omega
      case rel=>exact ⟨i+1,S4,by congr 1,rfl,by omega,Lib.hid ⟨HS4.out.2.2.1.touch0 Ux.tq,HS4.out.1,HS4.out.2.1,HS4.out.2.2.2.trans Ux.tq fun _ _ f=>f⟩⟩
     ·go_wp2_with (fail)
      first|refine ⟨⟨HXC.out _ Ux.tq,HXC.out _ Ux.tq⟩,?_⟩|refine ⟨HXC.out _ Ux.tq,?_⟩
      refine ⟨?_,?_⟩
      ·go_wp2_with (fail)
       first|refine ⟨⟨HXC.out _ Ux.tq,HXC.out _ Ux.tq⟩,?_⟩|refine ⟨HXC.out _ Ux.tq,?_⟩
       repeat ((with_reducible refine Ux.qg ?_);refine Ux.qu ?_)
       go_wp2_with (fail)
       first|refine ⟨⟨HXC.out _ Ux.tq,HXC.out _ Ux.tq⟩,?_⟩|refine ⟨HXC.out _ Ux.tq,?_⟩
       repeat ((with_reducible refine Ux.qg ?_);refine Ux.qu ?_)
       go_wp2
       go_roundg g'
       case measure=>omega
       case rel=>exact ⟨i+1,S4,by congr 1,rfl,by omega,Lib.hid ⟨HS4.out.2.2.1.touch0 Ux.tq,HS4.out.1,HS4.out.2.1,HS4.out.2.2.2.trans Ux.tq fun _ _ f=>f⟩⟩
      ·go_wp2_with (fail)
       first|refine ⟨⟨HXC.out _ Ux.tq,HXC.out _ Ux.tq⟩,?_⟩|refine ⟨HXC.out _ Ux.tq,?_⟩
       go_wp2_with (fail)
       first|refine ⟨⟨HXC.out _ Ux.tq,HXC.out _ Ux.tq⟩,?_⟩|refine ⟨HXC.out _ Ux.tq,?_⟩
       repeat ((with_reducible refine Ux.qg ?_);refine Ux.qu ?_)
       go_wp2
       go_roundg g'
       case measure=>omega
       case rel=>exact ⟨i+1,S4,by congr 1,rfl,by omega,Lib.hid ⟨HS4.out.2.2.1.touch0 Ux.tq,HS4.out.1,HS4.out.2.1,HS4.out.2.2.2.trans Ux.tq fun _ _ f=>f⟩⟩
    ·go_wp2_with (fail)
     first|refine ⟨⟨HXC.out _ Ux.tq,HXC.out _ Ux.tq⟩,?_⟩|refine ⟨HXC.out _ Ux.tq,?_⟩
     refine ⟨?_,?_⟩
     ·go_wp2_with (fail)
      first|refine ⟨⟨HXC.out _ Ux.tq,HXC.out _ Ux.tq⟩,?_⟩|refine ⟨HXC.out _ Ux.tq,?_⟩
      repeat ((with_reducible refine Ux.qg ?_);refine Ux.qu ?_)
      refine ⟨?_,?_⟩
      ·go_wp2_with (fail)
       first|refine ⟨⟨HXC.out _ Ux.tq,HXC.out _ Ux.tq⟩,?_⟩|refine ⟨HXC.out _ Ux.tq,?_⟩
       repeat ((with_reducible refine Ux.qg ?_);refine Ux.qu ?_)
       go_wp2_with (fail)
       first|refine ⟨⟨HXC.out _ Ux.tq,HXC.out _ Ux.tq⟩,?_⟩|refine ⟨HXC.out _ Ux.tq,?_⟩
       repeat ((with_reducible refine Ux.qg ?_);refine Ux.qu ?_)
       go_wp2
       go_roundg g'
       case measure=>omega
       case rel=>exact ⟨i+1,S4,by congr 1,rfl,by omega,Lib.hid ⟨HS4.out.2.2.1.touch0 Ux.tq,HS4.out.1,HS4.out.2.1,HS4.out.2.2.2.trans Ux.tq fun _ _ f=>f⟩⟩
      ·go_wp2_with (fail)
       first|refine ⟨⟨HXC.out _ Ux.tq,HXC.out _ Ux.tq⟩,?_⟩|refine ⟨HXC.out _ Ux.tq,?_⟩
       go_wp2_with (fail)
       first|refine ⟨⟨HXC.out _ Ux.tq,HXC.out _ Ux.tq⟩,?_⟩|refine ⟨HXC.out _ Ux.tq,?_⟩
       repeat ((with_reducible refine Ux.qg ?_);refine Ux.qu ?_)
       go_wp2
       go_roundg g'
       case measure=>omega
       case rel=>exact ⟨i+1,S4,by congr 1,rfl,by omega,Lib.hid ⟨HS4.out.2.2.1.touch0 Ux.tq,HS4.out.1,HS4.out.2.1,HS4.out.2.2.2.trans Ux.tq fun _ _ f=>f⟩⟩
     ·go_wp2_with (fail)
      first|refine ⟨⟨HXC.out _ Ux.tq,HXC.out _ Ux.tq⟩,?_⟩|refine ⟨HXC.out _ Ux.tq,?_⟩
      go_wp2_with (fail)
      first|refine ⟨⟨HXC.out _ Ux.tq,HXC.out _ Ux.tq⟩,?_⟩|refine ⟨HXC.out _ Ux.tq,?_⟩
      repeat ((with_reducible refine Ux.qg ?_);refine Ux.qu ?_)
      go_wp2_with (fail)
      first|refine ⟨⟨HXC.out _ Ux.tq,HXC.out _ Ux.tq⟩,?_⟩|refine ⟨HXC.out _ Ux.tq,?_⟩
      repeat ((with_reducible refine Ux.qg ?_);refine Ux.qu ?_)
      go_wp2
      go_roundg g'
      case measure=>omega
      case rel=>exact ⟨i+1,S4,by congr 1,rfl,by omega,Lib.hid ⟨HS4.out.2.2.1.touch0 Ux.tq,HS4.out.1,HS4.out.2.1,HS4.out.2.2.2.trans Ux.tq fun _ _ f=>f⟩⟩
   ·have c1:=HC.out.1 2
    have c2:=HC.out.2.1 2
    have c3:=HC.out.2.2 2
    rw [hrl] at hS2
    subst hk
    have hxc:=HXC.out W2 (Ux.Touch.refl _ _)
    clear hrl k0 k1 hc
    refine Ux.wpr (fun _ w'=>w'.cell? ⟨g,o+i,none⟩=some (.int .i64 x)) (.q [0,1,3,4,9,10,11] (.br 2 (.q [5] (.br 6 (.q [7,8] (.e 12 true true (.e 13 true true (.q [14] (.line [15]))))) 12 (.br 6 (.q [7,8] (.e 13 true true (.q [14] (.line [15])))) 13 (.e 6 true true (.q [7,8,14] (.line [15])))))) 12 (.br 2 (.q [5] (.br 6 (.q [7,8] (.e 13 true true (.q [14] (.line [15])))) 13 (.e 6 true true (.q [7,8,14] (.line [15]))))) 13 (.e 2 true true (.q [5] (.e 6 true true (.q [7,8,14] (.line [15])))))))) ?_;repeat ((with_reducible refine Ux.qg ?_);refine Ux.qu ?_)
    refine ⟨?_,?_⟩
    ·go_wp2_with (fail)
     first|refine ⟨⟨HXC.out _ Ux.tq,HXC.out _ Ux.tq⟩,?_⟩|refine ⟨HXC.out _ Ux.tq,?_⟩
     repeat ((with_reducible refine Ux.qg ?_);refine Ux.qu ?_)
     refine ⟨?_,?_⟩
     ·go_wp2_with (fail)
      first|refine ⟨⟨HXC.out _ Ux.tq,HXC.out _ Ux.tq⟩,?_⟩|refine ⟨HXC.out _ Ux.tq,?_⟩
      repeat ((with_reducible refine Ux.qg ?_);refine Ux.qu ?_)
      go_wp2_with (fail)
      first|refine ⟨⟨HXC.out _ Ux.tq,HXC.out _ Ux.tq⟩,?_⟩|refine ⟨HXC.out _ Ux.tq,?_⟩
      go_wp2_with (fail)
      first|refine ⟨⟨HXC.out _ Ux.tq,HXC.out _ Ux.tq⟩,?_⟩|refine ⟨HXC.out _ Ux.tq,?_⟩
      repeat ((with_reducible refine Ux.qg ?_);refine Ux.qu ?_)
      go_wp2
      go_roundg g'
      case measure=>omega
      case rel=>exact ⟨i+1,S4,by congr 1,rfl,by omega,Lib.hid ⟨HS4.out.2.2.1.touch0 Ux.tq,HS4.out.1,HS4.out.2.1,HS4.out.2.2.2.trans Ux.tq fun _ _ f=>f⟩⟩
     ·go_wp2_with (fail)
      first|refine ⟨⟨HXC.out _ Ux.tq,HXC.out _ Ux.tq⟩,?_⟩|refine ⟨HXC.out _ Ux.tq,?_⟩
      refine ⟨?_,?_⟩
      ·go_wp2_with (fail)
       first|refine ⟨⟨HXC.out _ Ux.tq,HXC.out _ Ux.tq⟩,?_⟩|refine ⟨HXC.out _ Ux.tq,?_⟩
       repeat ((with_reducible refine Ux.qg ?_);refine Ux.qu ?_)
       go_wp2_with (fail)
       first|refine ⟨⟨HXC.out _ Ux.tq,HXC.out _ Ux.tq⟩,?_⟩|refine ⟨HXC.out _ Ux.tq,?_⟩
       repeat ((with_reducible refine Ux.qg ?_);refine Ux.qu ?_)
       go_wp2
       go_roundg g'
       case measure=>omega
       case rel=>exact ⟨i+1,S4,by congr 1,rfl,by omega,Lib.hid ⟨HS4.out.2.2.1.touch0 Ux.tq,HS4.out.1,HS4.out.2.1,HS4.out.2.2.2.trans Ux.tq fun _ _ f=>f⟩⟩
      ·go_wp2_with (fail)
       first|refine ⟨⟨HXC.out _ Ux.tq,HXC.out _ Ux.tq⟩,?_⟩|refine ⟨HXC.out _ Ux.tq,?_⟩
       go_wp2_with (fail)
       first|refine ⟨⟨HXC.out _ Ux.tq,HXC.out _ Ux.tq⟩,?_⟩|refine ⟨HXC.out _ Ux.tq,?_⟩
       repeat ((with_reducible refine Ux.qg ?_);refine Ux.qu ?_)
       go_wp2
       go_roundg g'
       case measure=>omega
       case rel=>exact ⟨i+1,S4,by congr 1,rfl,by omega,Lib.hid ⟨HS4.out.2.2.1.touch0 Ux.tq,HS4.out.1,HS4.out.2.1,HS4.out.2.2.2.trans Ux.tq fun _ _ f=>f⟩⟩
    ·go_wp2_with (fail)
     first|refine ⟨⟨HXC.out _ Ux.tq,HXC.out _ Ux.tq⟩,?_⟩|refine ⟨HXC.out _ Ux.tq,?_⟩
     refine ⟨?_,?_⟩
     ·go_wp2_with (fail)
      first|refine ⟨⟨HXC.out _ Ux.tq,HXC.out _ Ux.tq⟩,?_⟩|refine ⟨HXC.out _ Ux.tq,?_⟩
      repeat ((with_reducible refine Ux.qg ?_);refine Ux.qu ?_)
      refine ⟨?_,?_⟩
      ·go_wp2_with (fail)
       first|refine ⟨⟨HXC.out _ Ux.tq,HXC.out _ Ux.tq⟩,?_⟩|refine ⟨HXC.out _ Ux.tq,?_⟩
       repeat ((with_reducible refine Ux.qg ?_);refine Ux.qu ?_)
       go_wp2_with (fail)
       first|refine ⟨⟨HXC.out _ Ux.tq,HXC.out _ Ux.tq⟩,?_⟩|refine ⟨HXC.out _ Ux.tq,?_⟩
       repeat ((with_reducible refine Ux.qg ?_);refine Ux.qu ?_)
       go_wp2
       go_roundg g'
       case measure=>omega
       case rel=>exact ⟨i+1,S4,by congr 1,rfl,by omega,Lib.hid ⟨HS4.out.2.2.1.touch0 Ux.tq,HS4.out.1,HS4.out.2.1,HS4.out.2.2.2.trans Ux.tq fun _ _ f=>f⟩⟩
      ·go_wp2_with (fail)
       first|refine ⟨⟨HXC.out _ Ux.tq,HXC.out _ Ux.tq⟩,?_⟩|refine ⟨HXC.out _ Ux.tq,?_⟩
       go_wp2_with (fail)
       first|refine ⟨⟨HXC.out _ Ux.tq,HXC.out _ Ux.tq⟩,?_⟩|refine ⟨HXC.out _ Ux.tq,?_⟩
       repeat ((with_reducible refine Ux.qg ?_);refine Ux.qu ?_)
       go_wp2
       go_roundg g'
       case measure=>omega
       case rel=>exact ⟨i+1,S4,by congr 1,rfl,by omega,Lib.hid ⟨HS4.out.2.2.1.touch0 Ux.tq,HS4.out.1,HS4.out.2.1,HS4.out.2.2.2.trans Ux.tq fun _ _ f=>f⟩⟩
     ·go_wp2_with (fail)
      first|refine ⟨⟨HXC.out _ Ux.tq,HXC.out _ Ux.tq⟩,?_⟩|refine ⟨HXC.out _ Ux.tq,?_⟩
      go_wp2_with (fail)
      first|refine ⟨⟨HXC.out _ Ux.tq,HXC.out _ Ux.tq⟩,?_⟩|refine ⟨HXC.out _ Ux.tq,?_⟩
      repeat ((with_reducible refine Ux.qg ?_);refine Ux.qu ?_)
      go_wp2_with (fail)
      first|refine ⟨⟨HXC.out _ Ux.tq,HXC.out _ Ux.tq⟩,?_⟩|refine ⟨HXC.out _ Ux.tq,?_⟩
      repeat ((with_reducible refine Ux.qg ?_);refine Ux.qu ?_)
      go_wp2
      go_roundg g'
      case measure=>omega
      case rel=>exact ⟨i+1,S4,by congr 1,rfl,by omega,Lib.hid ⟨HS4.out.2.2.1.touch0 Ux.tq,HS4.out.1,HS4.out.2.1,HS4.out.2.2.2.trans Ux.tq fun _ _ f=>f⟩⟩
   ·have c1:=HC.out.1 3
    have c2:=HC.out.2.1 3
    have c3:=HC.out.2.2 3
    rw [hrl] at hS2
    subst hk
    have hxc:=HXC.out W2 (Ux.Touch.refl _ _)
    clear hrl k0 k1 hc
    refine Ux.wpr (fun _ w'=>w'.cell? ⟨g,o+i,none⟩=some (.int .i64 x)) (.q [0,1,3,4,9,10,11] (.br 2 (.q [5] (.br 6 (.q [7,8] (.e 12 true true (.e 13 true true (.q [14] (.line [15]))))) 12 (.br 6 (.q [7,8] (.e 13 true true (.q [14] (.line [15])))) 13 (.e 6 true true (.q [7,8,14] (.line [15])))))) 12 (.br 2 (.q [5] (.br 6 (.q [7,8] (.e 13 true true (.q [14] (.line [15])))) 13 (.e 6 true true (.q [7,8,14] (.line [15]))))) 13 (.e 2 true true (.q [5] (.e 6 true true (.q [7,8,14] (.line [15])))))))) ?_;repeat ((with_reducible refine Ux.qg ?_);refine Ux.qu ?_)
    refine ⟨?_,?_⟩
    ·go_wp2_with (fail)
     first|refine ⟨⟨HXC.out _ Ux.tq,HXC.out _ Ux.tq⟩,?_⟩|refine ⟨HXC.out _ Ux.tq,?_⟩
     repeat ((with_reducible refine Ux.qg ?_);refine Ux.qu ?_)
     refine ⟨?_,?_⟩
     ·go_wp2_with (fail)
      first|refine ⟨⟨HXC.out _ Ux.tq,HXC.out _ Ux.tq⟩,?_⟩|refine ⟨HXC.out _ Ux.tq,?_⟩
      repeat ((with_reducible refine Ux.qg ?_);refine Ux.qu ?_)
      go_wp2_with (fail)
      first|refine ⟨⟨HXC.out _ Ux.tq,HXC.out _ Ux.tq⟩,?_⟩|refine ⟨HXC.out _ Ux.tq,?_⟩
      go_wp2_with (fail)
      first|refine ⟨⟨HXC.out _ Ux.tq,HXC.out _ Ux.tq⟩,?_⟩|refine ⟨HXC.out _ Ux.tq,?_⟩
      repeat ((with_reducible refine Ux.qg ?_);refine Ux.qu ?_)
      go_wp2
      go_roundg g'
      case measure=>omega
      case rel=>exact ⟨i+1,S4,by congr 1,rfl,by omega,Lib.hid ⟨HS4.out.2.2.1.touch0 Ux.tq,HS4.out.1,HS4.out.2.1,HS4.out.2.2.2.trans Ux.tq fun _ _ f=>f⟩⟩
     ·go_wp2_with (fail)
      first|refine ⟨⟨HXC.out _ Ux.tq,HXC.out _ Ux.tq⟩,?_⟩|refine ⟨HXC.out _ Ux.tq,?_⟩
      refine ⟨?_,?_⟩
      ·go_wp2_with (fail)
       first|refine ⟨⟨HXC.out _ Ux.tq,HXC.out _ Ux.tq⟩,?_⟩|refine ⟨HXC.out _ Ux.tq,?_⟩
       repeat ((with_reducible refine Ux.qg ?_);refine Ux.qu ?_)
       go_wp2_with (fail)
       first|refine ⟨⟨HXC.out _ Ux.tq,HXC.out _ Ux.tq⟩,?_⟩|refine ⟨HXC.out _ Ux.tq,?_⟩
       repeat ((with_reducible refine Ux.qg ?_);refine Ux.qu ?_)
       go_wp2
       go_roundg g'
       case measure=>omega
       case rel=>exact ⟨i+1,S4,by congr 1,rfl,by omega,Lib.hid ⟨HS4.out.2.2.1.touch0 Ux.tq,HS4.out.1,HS4.out.2.1,HS4.out.2.2.2.trans Ux.tq fun _ _ f=>f⟩⟩
      ·go_wp2_with (fail)
       first|refine ⟨⟨HXC.out _ Ux.tq,HXC.out _ Ux.tq⟩,?_⟩|refine ⟨HXC.out _ Ux.tq,?_⟩
       go_wp2_with (fail)
       first|refine ⟨⟨HXC.out _ Ux.tq,HXC.out _ Ux.tq⟩,?_⟩|refine ⟨HXC.out _ Ux.tq,?_⟩
       repeat ((with_reducible refine Ux.qg ?_);refine Ux.qu ?_)
       go_wp2
       go_roundg g'
       case measure=>omega
       case rel=>exact ⟨i+1,S4,by congr 1,rfl,by omega,Lib.hid ⟨HS4.out.2.2.1.touch0 Ux.tq,HS4.out.1,HS4.out.2.1,HS4.out.2.2.2.trans Ux.tq fun _ _ f=>f⟩⟩
    ·go_wp2_with (fail)
     first|refine ⟨⟨HXC.out _ Ux.tq,HXC.out _ Ux.tq⟩,?_⟩|refine ⟨HXC.out _ Ux.tq,?_⟩
     refine ⟨?_,?_⟩
     ·go_wp2_with (fail)
      first|refine ⟨⟨HXC.out _ Ux.tq,HXC.out _ Ux.tq⟩,?_⟩|refine ⟨HXC.out _ Ux.tq,?_⟩
      repeat ((with_reducible refine Ux.qg ?_);refine Ux.qu ?_)
      refine ⟨?_,?_⟩
      ·go_wp2_with (fail)
       first|refine ⟨⟨HXC.out _ Ux.tq,HXC.out _ Ux.tq⟩,?_⟩|refine ⟨HXC.out _ Ux.tq,?_⟩
       repeat ((with_reducible refine Ux.qg ?_);refine Ux.qu ?_)
       go_wp2_with (fail)
       first|refine ⟨⟨HXC.out _ Ux.tq,HXC.out _ Ux.tq⟩,?_⟩|refine ⟨HXC.out _ Ux.tq,?_⟩
       repeat ((with_reducible refine Ux.qg ?_);refine Ux.qu ?_)
       go_wp2
       go_roundg g'
       case measure=>omega
       case rel=>exact ⟨i+1,S4,by congr 1,rfl,by omega,Lib.hid ⟨HS4.out.2.2.1.touch0 Ux.tq,HS4.out.1,HS4.out.2.1,HS4.out.2.2.2.trans Ux.tq fun _ _ f=>f⟩⟩
      ·go_wp2_with (fail)
       first|refine ⟨⟨HXC.out _ Ux.tq,HXC.out _ Ux.tq⟩,?_⟩|refine ⟨HXC.out _ Ux.tq,?_⟩
       go_wp2_with (fail)
       first|refine ⟨⟨HXC.out _ Ux.tq,HXC.out _ Ux.tq⟩,?_⟩|refine ⟨HXC.out _ Ux.tq,?_⟩
       repeat ((with_reducible refine Ux.qg ?_);refine Ux.qu ?_)
       go_wp2
       go_roundg g'
       case measure=>omega
       case rel=>exact ⟨i+1,S4,by congr 1,rfl,by omega,Lib.hid ⟨HS4.out.2.2.1.touch0 Ux.tq,HS4.out.1,HS4.out.2.1,HS4.out.2.2.2.trans Ux.tq fun _ _ f=>f⟩⟩
     ·go_wp2_with (fail)
      first|refine ⟨⟨HXC.out _ Ux.tq,HXC.out _ Ux.tq⟩,?_⟩|refine ⟨HXC.out _ Ux.tq,?_⟩
      go_wp2_with (fail)
      first|refine ⟨⟨HXC.out _ Ux.tq,HXC.out _ Ux.tq⟩,?_⟩|refine ⟨HXC.out _ Ux.tq,?_⟩
      repeat ((with_reducible refine Ux.qg ?_);refine Ux.qu ?_)
      go_wp2_with (fail)
      first|refine ⟨⟨HXC.out _ Ux.tq,HXC.out _ Ux.tq⟩,?_⟩|refine ⟨HXC.out _ Ux.tq,?_⟩
      repeat ((with_reducible refine Ux.qg ?_);refine Ux.qu ?_)
      go_wp2
      go_roundg g'
      case measure=>omega
      case rel=>exact ⟨i+1,S4,by congr 1,rfl,by omega,Lib.hid ⟨HS4.out.2.2.1.touch0 Ux.tq,HS4.out.1,HS4.out.2.1,HS4.out.2.2.2.trans Ux.tq fun _ _ f=>f⟩⟩
  ·obtain rfl:i=n:=by omega
   have i1: ¬(i:Int)<i:=by omega
   have hr4:=HH.out.2.2.2.2.2.2
   have hi8:=HH.out.2.2.2.1
   have hsg:signs S.data.toList=38::32::109::Ux.rowS r 0 i:=by
    rw [Ux.Sign.signs_ascii _ fun b hb=> ?_,HI.out.2.1]
    have hb':b.toNat∈S.data.toList.map UInt8.toNat:=List.mem_map_of_mem hb
    rw [HI.out.2.1] at hb'
    simp only [List.mem_cons] at hb'
    rcases hb' with h|h|h|h
    ·omega
    ·omega
    ·omega
    ·exact rowS_ascii r i 0 (by omega) _ h
   have HRD:=Lib.hid (rows_read S i r hi8 (fun j _=>hr4 j) hsg (by have:=HI.out.2.2.1;omega) wr (HH.out.1.touch HI.out.2.2.2))
   have hrow:=HI.out.1.row
   obtain ⟨a5,c5,rfl,_⟩:=hrow.is
   have hl5:(iv (sv ((List.range i).map r))).length=i:=by rw [Ux.iv_length,Ux.sv_length];simp
   rw [hl5] at hrow⊢
   have HG:=Lib.hid hrow
   clear hr4 hi8 hsg hrow hl5 hlt
   go_wp2_with (go_at_call 9;fail)
   refine HRD.out.mono ?_
   rintro e w1 ⟨⟨B,mb,E,T,d,en,el,rfl,hTA,hSE,hRT,hinv⟩,T1⟩
   have hel: ∀t,elemsE E t=elemsE T t:=fun t=>Ux.elemsE_congr (Ux.findE_perm hTA.1.1.1 hSE.1) _
   have hcells: ∀W,Ux.Touch (fun _=>False) w1 W→∀j,j<i→∃g,a5=some ⟨g,0,none⟩∧W.cell? ⟨g,j,none⟩=some (.int .i64 (r j:Int)):=fun W t j hj=>by
    obtain ⟨a,c,e,h⟩:=(HG.out.touch0 (T1.trans t fun _ _ f=>f)).is
    rw [Ux.iv_length,Ux.sv_length,List.length_map,List.length_range] at e
    cases e
    obtain ⟨g,h1,_,h2⟩:=h j _ (Ux.iv_get (Ux.sv_get (show ((List.range i).map r)[j]? =some (r j) by rw [List.getElem?_map,List.getElem?_range hj];rfl)))
    exact ⟨g,h1,h2⟩
   have hT1: ∀W,Ux.Touch (fun _=>False) w1 W→Tabs W:=fun W t=>HH.out.1.touch (HI.out.2.2.2.trans (T1.trans t fun _ _ f=>f) fun _ _ f=>f)
   have okx: ∀j,j≤i→d j<4294967296:=fun j hj=>(hRT.dok j hj).1
   have okn:en<4294967296:=(hRT.vals _ (Ux.findE_some hRT.fn) en (by simp)).1
   have okl:el<4294967296:=(hRT.vals _ (Ux.findE_some hRT.fl) el (by simp)).1
   have one: ∀x:Nat,x<4294967296→∀y∈[x],y<4294967296:=fun x hx y hy=>by rw [List.mem_singleton.1 hy];exact hx
   have HCM:Hid (∀(X Y:ByteArray) (x y q:Nat) (Q:Int),X.size≤100→Y.size≤100→elemsE E (signs X.data.toList)= [x]→elemsE E (signs Y.data.toList)= [y]→x<4294967296→y<4294967296→q3 q→Q=q→∀W,Ux.Touch (fun _=>False) w1 W→Calls Tryz.prog 10 #[.pointer (some ⟨B,0,none⟩),.string X,.string Y,.int .i64 Q] W fun e w'=>e= .returned (.int .i64 (cmp1 q x y))∧Ux.Touch (fun _=>False) W w'):=Lib.hid fun X Y x y q Q hX hY hx hy h1 h2 hq hQ W t=>
    cmp7_ B mb E X Y q hq Q hQ [x] [y] W (hTA.touch0 t) (hT1 W t) (by omega) (by omega) hx hy (one x h1) (one y h2) (by simp) (by simp)
   have hm:elemsE E (signs (⟨#[109]⟩:ByteArray).data.toList)= [d 0]:=by
    rw [hel,show signs (⟨#[109]⟩:ByteArray).data.toList= [109] from Ux.Sign.signs_ascii _ (by decide)]
    exact elems_one hRT.fm
   have hnn:elemsE E (signs (⟨#[110]⟩:ByteArray).data.toList)= [en]:=by
    rw [hel,show signs (⟨#[110]⟩:ByteArray).data.toList= [110] from Ux.Sign.signs_ascii _ (by decide)]
    exact elems_one hRT.fn
   have hll:elemsE E (signs (⟨#[108]⟩:ByteArray).data.toList)= [el]:=by
    rw [hel,show signs (⟨#[108]⟩:ByteArray).data.toList= [108] from Ux.Sign.signs_ascii _ (by decide)]
    exact elems_one hRT.fl
   have hdig: ∀j,j<i→∀D:ByteArray,(⟨#[UInt8.ofNat (49+j)]⟩:ByteArray)=D→elemsE E (signs D.data.toList)= [d (j+1)]:=fun j hj D hD=>by
    have hi8:=HH.out.2.2.2.1
    have hs:signs D.data.toList= [49+j]:=by
     rw [←hD,Ux.Sign.signs_ascii _ fun b hb=> ?_]
     ·show [(UInt8.ofNat (49+j)).toNat]=_
      rw [UInt8.toNat_ofNat',show (49+j) % 2^8=49+j by omega]
     ·have hb:b∈[UInt8.ofNat (49+j)]:=hb
      rw [List.mem_singleton.1 hb,UInt8.toNat_ofNat']
      omega
    rw [hs,hel]
    exact elems_one (hRT.fd j hj)
   have hck:Hid (∀W,Ux.Touch (fun _=>False) w1 W→Calls Tryz.prog 11 #[.pointer (some ⟨B,0,none⟩)] W fun e w'=>e= .returned (.int .i64 0)∧Ux.Touch (fun _=>False) W w'):=Lib.hid fun W t=>by
    have h:=check_ B mb E W (hTA.touch0 t) (fun e he=>hinv.sig e (hSE.1.mem_iff.1 he))
    rw [checkE_perm hTA.1.1.1 hSE.1,hRT.check HH.out.2.2.2.1] at h
    exact h
   have HV:Hid (∀j,j<i→∀q,q3 q→(q<r j→cmp1 q (d j) (d (j+1))=0)∧(q=r j→cmp1 q (d j) (d (j+1))= -1)):=Lib.hid fun j hj q hq=>by
    have h1:=hRT.rel j hj q hq
    rw [cmp1_is (hRT.pos j (by omega) q hq) (hRT.pos (j+1) (by omega) q hq)]
    exact ⟨fun h=>by rw [h1.1 h,if_neg (by omega),if_neg (by omega)],fun h=>by rw [if_pos (h1.2 h)]⟩
   have hvn:cmp1 1 (d i) en= -1:=by
    have h1:=hRT.hi
    have h2:=hRT.pos i (Nat.le_refl _) 1 (.inl rfl)
    rw [cmp1_is h2 (by omega),if_pos h1]
   have hvl:0<i→cmp1 1 el (d 1)= -1:=fun h=>by
    have h1:=hRT.lo 1 h
    rw [cmp1_is hRT.pen (by omega),if_pos h1]
   have HF:=Lib.hid (And.intro hcells (And.intro hT1 (And.intro okx (And.intro okn (And.intro okl (And.intro hm (And.intro hnn (And.intro hll (And.intro hdig (And.intro hvn hvl))))))))))
   have H1:=Lib.hid (HI.out.2.2.2.trans T1 fun _ _ f=>f)
   clear hTA hSE hRT hinv T1 hel hcells hT1 okx okn okl one hm hnn hll hdig hvn hvl
   go_wp2_with (fail)
   go_loopg [11,12] i (fun gk s11 s12 wr=> ∃(j:Nat) (P:ByteArray),s12= .int .i64 j∧s11= .string P∧j+gk=i∧Hid (P.size≤100∧elemsE E (signs P.data.toList)= [d j]∧Ux.Touch (fun _=>False) w1 wr))
   case atStart=>exact ⟨0,⟨#[109]⟩,rfl,rfl,by omega,Lib.hid ⟨by decide,HF.out.2.2.2.2.2.1,Ux.Touch.refl _ _⟩⟩
   case round=>
    obtain ⟨j,P,rfl,rfl,hjg,HJ⟩:=hrel
    have j0:(0:Int)≤j:=by omega
    by_cases hlt:j<i
    ·obtain ⟨g',rfl⟩: ∃g',gk=g'+1:=⟨gk-1,by omega⟩
     have p1:(j:Int)<i:=by omega
     have p8:(j:Int)<8:=by have:=HH.out.2.2.2.1;omega
     obtain ⟨D,hD⟩: ∃D:ByteArray,(⟨#[UInt8.ofNat (49+j)]⟩:ByteArray)=D:=⟨_,rfl⟩
     have zD:D.size≤100:=by rw [←hD];show 1≤100;decide
     have hcv:=conv1 (wr.alloc (.cells #[.int .u8 (49+(j:Int))] 5)) wr.heap.size (49+j) D (49+(j:Int)) (by omega) (by omega) hD (heap_alloc_new wr _)
     have TA:Ux.Touch (fun _=>False) w1 (wr.alloc (.cells #[.int .u8 (49+(j:Int))] 5)):=HJ.out.2.2.alloc _
     have HD:=Lib.hid (And.intro hcv (And.intro TA (And.intro zD (HF.out.2.2.2.2.2.2.2.2.1 j hlt D hD))))
     obtain ⟨rj,hrj⟩: ∃k,r j=k:=⟨_,rfl⟩
     have hr4:=HH.out.2.2.2.2.2.2 j
     have HRJ:=Lib.hid (And.intro hrj (And.intro hlt hr4))
     clear hD zD hcv TA hr4 hlt
     go_upto_region 17 with (fail)
     go_wp2_with (fail)
     rw [HD.out.1]
     go_wp2_with (fail)
     obtain ⟨w2,hw2⟩: ∃W,wr.alloc (.cells #[.int .u8 (49+(j:Int))] 5)=W:=⟨_,rfl⟩
     rw [hw2]
     have T2:Ux.Touch (fun _=>False) w1 w2:=by rw [←hw2];exact HD.out.2.1
     have H2:=Lib.hid T2
     clear hw2 T2
     go_loopg [14] 3 (fun gk s14 wr=> ∃q:Nat,s14= .int .i64 q∧q+gk=4∧1≤q∧Hid (Ux.Touch (fun _=>False) w1 wr))
     case atStart=>exact ⟨1,rfl,by omega,by omega,Lib.hid H2.out⟩
     case round=>
      obtain ⟨q,rfl,hqg,hq1,HQ⟩:=hrel
      have q0:(1:Int)≤q:=by omega
      by_cases hlt:q≤3
      ·obtain ⟨f',rfl⟩: ∃g',gk=g'+1:=⟨gk-1,by omega⟩
       have p2:(q:Int)≤3:=by omega
       have hq3:q3 q:=by unfold q3;omega
       obtain ⟨V,hV⟩: ∃V,cmp1 q (d j) (d (j+1))=V:=⟨_,rfl⟩
       have hji:=HRJ.out.2.1
       have hcm:=HCM.out P D (d j) (d (j+1)) q (q:Int) HJ.out.1 HD.out.2.2.1 HJ.out.2.1 HD.out.2.2.2 (HF.out.2.2.1 j (by omega)) (HF.out.2.2.1 (j+1) (by omega)) hq3 rfl wr HQ.out
       rw [hV] at hcm
       have hvv:=HV.out j hji q hq3
       rw [hV,HRJ.out.1] at hvv
       obtain ⟨g5,rfl,hc5⟩:=HF.out.1 wr HQ.out j hji
       rw [HRJ.out.1] at hc5
       have HC5:=Lib.hid fun W (T:Ux.Touch (fun _=>False) wr W)=>T.cell hc5 (fun f=>f)
       have HCX:=Lib.hid hcm
       have HVV:=Lib.hid hvv
       clear hq3 hV hji hcm hvv hc5 hlt
       go_wp2_with (go_at_call 10;fail)
       refine HCX.out.mono ?_
       rintro e w3 ⟨rfl,T3⟩
       have hc5:=HC5.out w3 T3
       have H3:=Lib.hid (HQ.out.trans T3 fun _ _ f=>f)
       clear T3
       have h3:q<rj∨q=rj∨rj<q:=by omega
       rcases h3 with h|h|h
       ·obtain rfl:=HVV.out.1 h
        have k1:(q:Int)<rj:=by omega
        have k2:((q:Int)==rj)=false:=beq_false_of_ne (by omega)
        clear h
        go_wp2
        go_roundg f'
        case measure=>omega
        case rel=>exact ⟨q+1,by congr 1,by omega,by omega,Lib.hid H3.out⟩
       ·obtain rfl:=HVV.out.2 h
        subst h
        have k1: ¬(q:Int)<q:=by omega
        go_wp2
        go_roundg f'
        case measure=>omega
        case rel=>exact ⟨q+1,by congr 1,by omega,by omega,Lib.hid H3.out⟩
       ·have k1: ¬(q:Int)<rj:=by omega
        have k2:((q:Int)==rj)=false:=beq_false_of_ne (by omega)
        clear h
        go_wp2
        go_roundg f'
        case measure=>omega
        case rel=>exact ⟨q+1,by congr 1,by omega,by omega,Lib.hid H3.out⟩
      ·obtain rfl:q=4:=by omega
       clear hlt
       go_wp2
       go_roundg g'
       case measure=>omega
       case rel=>exact ⟨j+1,D,by congr 1,rfl,by omega,Lib.hid ⟨HD.out.2.2.1,HD.out.2.2.2,HQ.out⟩⟩
    ·obtain rfl:j=i:=by omega
     have p1: ¬(j:Int)<j:=by omega
     obtain ⟨h1,h2,h3,h4,h5,h6,h7,h8,h9,h10,h11⟩:=HF.out
     have hc1:=HCM.out P ⟨#[110]⟩ (d j) en 1 1 HJ.out.1 (by decide) HJ.out.2.1 h7 (h3 j (Nat.le_refl _)) h4 (.inl rfl) rfl wr HJ.out.2.2
     rw [h10] at hc1
     have HC1:=Lib.hid hc1
     have AW1:=Lib.hid fun W (T:Ux.Touch (fun _=>False) w1 W)=>AW.out W (H1.out.trans T fun _ _ f=>f)
     clear h1 h2 h4 h6 h7 hc1 hlt
     by_cases hz:j=0
     ·subst hz
      clear h3 h5 h8 h9 h10 h11
      go_wp2_with (go_at_call 10;fail)
      refine HC1.out.mono ?_
      rintro e w3 ⟨rfl,T3⟩
      have H3:=Lib.hid (HJ.out.2.2.trans T3 fun _ _ f=>f)
      clear T3
      go_wp2_with (go_at_call 11;fail)
      refine (hck.out w3 H3.out).mono ?_
      rintro e w4 ⟨rfl,T4⟩
      have H4:=Lib.hid (H3.out.trans T4 fun _ _ f=>f)
      clear T4
      go_wp2_with (go_at_call 12;fail)
      refine (AW1.out w4 H4.out).mono ?_
      rintro e w5 ⟨rfl,T5⟩
      have H5:=Lib.hid (H1.out.trans (H4.out.trans T5 fun _ _ f=>f) fun _ _ f=>f)
      clear T5
      go_wp2
      go_returns
      exact ⟨rfl,H5.out⟩
     ·have k0:((j:Int)==0)=false:=beq_false_of_ne (by omega)
      have hd1:=h9 0 (by omega) ⟨#[49]⟩ rfl
      have HC2:Hid (∀W,Ux.Touch (fun _=>False) w1 W→Calls Tryz.prog 10 #[.pointer (some ⟨B,0,none⟩),.string ⟨#[108]⟩,.string ⟨#[49]⟩,.int .i64 1] W fun e w'=>e= .returned (.int .i64 (-1))∧Ux.Touch (fun _=>False) W w'):=Lib.hid fun W t=>by
       have h:=HCM.out ⟨#[108]⟩ ⟨#[49]⟩ el (d 1) 1 1 (by decide) (by decide) h8 hd1 h5 (h3 1 (by omega)) (.inl rfl) rfl W t
       rw [h11 (by omega)] at h
       exact h
      clear h3 h5 h8 h9 h10 h11 hd1 hz
      go_wp2_with (go_at_call 10;fail)
      refine HC1.out.mono ?_
      rintro e w3 ⟨rfl,T3⟩
      have H3:=Lib.hid (HJ.out.2.2.trans T3 fun _ _ f=>f)
      clear T3
      go_wp2_with (go_at_call 10;fail)
      refine (HC2.out w3 H3.out).mono ?_
      rintro e w6 ⟨rfl,T6⟩
      have H6:=Lib.hid (H3.out.trans T6 fun _ _ f=>f)
      clear T6
      go_wp2_with (go_at_call 11;fail)
      refine (hck.out w6 H6.out).mono ?_
      rintro e w4 ⟨rfl,T4⟩
      have H4:=Lib.hid (H6.out.trans T4 fun _ _ f=>f)
      clear T4
      go_wp2_with (go_at_call 12;fail)
      refine (AW1.out w4 H4.out).mono ?_
      rintro e w5 ⟨rfl,T5⟩
      have H5:=Lib.hid (H1.out.trans (H4.out.trans T5 fun _ _ f=>f) fun _ _ f=>f)
      clear T5
      go_wp2
      go_returns
      exact ⟨rfl,H5.out⟩
end Go.Proofs.YtclffhpdekepkaaGreatDoor
