/- A part of the proof that the statement holds for every input that it names. No other condition. -/
import Derived.Test.YtfccjaboicpohaaGreatDoorTableAY
import Derived.Test.YtfccjaboicpohaaGreatDoorUxTabAX1Y
import Derived.Test.YtfccjaboicpohaaGreatDoorShelfX1Y
set_option linter.unusedVariables false
set_option linter.unusedSimpArgs false
namespace Go.Proofs.YtfccjaboicpohaaGreatDoor
open Go.RowKit
open Ux (Row iv sv bv Ent ev rootE)
open Ux.Sign (cp raw signs)
theorem rootE_check:checkE rootE=true:=by decide+kernel
end Go.Proofs.YtfccjaboicpohaaGreatDoor
namespace Go.Proofs.YtfccjaboicpohaaGreatDoor
open Go.RowKit
open Ux (Row iv sv bv eP eS eT eV hd hexGo hexS hexP textE dcur)
set_option maxHeartbeats 4000000 in
theorem tz64_ (w:World) (hT:TabD w):Calls Tryz.prog 259 #[.int .u64 16] w fun e w'=>e= .returned (.int .i64 4)∧w'=w:=by
 have e1:IntKind.u64.wrap (bits BinOp.and IntKind.u64 16 (IntKind.u64.wrap (-16))*285870213051353865)/288230376151711744=15:=by decide+kernel
 have hT:w.cell? ⟨5,15,none⟩=some (.int .u8 4):=hT
 go_enter Tryz.func259,Tryz.ntmps259
 go_wp2
 go_ret
 exact ⟨rfl,rfl⟩
theorem tz_ (w:World) (hT:TabD w):Calls Tryz.prog 249 #[.int .u64 16] w fun e w'=>e= .returned (.int .i64 4)∧w'=w:=by
 go_enter Tryz.func249,Tryz.ntmps249
 go_wp2_with (go_at_call 259;refine (tz64_ _ hT).mono ?_;rintro e w' ⟨rfl,rfl⟩)
 go_ret
 exact ⟨rfl,rfl⟩
theorem pow2_ (w:World):Calls Tryz.prog 248 #[.int .i64 16] w fun e w'=>e= .returned (.bool true)∧w'=w:=by
 have e1:bits BinOp.and IntKind.i64 16 15=0:=by decide+kernel
 go_enter Tryz.func248,Tryz.ntmps248
 go_wp2
 go_ret
 exact ⟨rfl,rfl⟩
theorem zero65:Tryz.zeroCells323=dcur 65 []:=by kernel_rfl
def lit36:ByteArray:=⟨#[48,49,50,51,52,53,54,55,56,57,97,98,99,100,101,102,103,104,105,106,107,108,109,110,111,112,113,114,115,116,117,118,119,120,121,122]⟩
theorem and15 (x:Nat) (h:x<65536):bits .and .u64 (x:Int) 15=(x % 16:Nat):=by
 show IntKind.u64.wrap ((BitVec.ofInt 64 (x:Int)&&&BitVec.ofInt 64 (15:Int)).toNat:Nat)=_
 have e1:(BitVec.ofInt 64 (x:Int)).toNat=x:=by rw [BitVec.toNat_ofInt];omega
 have e2:(BitVec.ofInt 64 (15:Int)).toNat=2^4-1:=rfl
 rw [BitVec.toNat_and,e1,e2,Nat.and_two_pow_sub_one_eq_mod,Ux.u64w]
 omega
theorem convD {w:World} {q:Nat} {acc:List UInt8} {m c:Nat} (hm:m=acc.length) (h:w.heap[q]? =some (.cells (dcur 65 acc) 323 (0,0))) (hl:acc.length≤65) (o:Nat) (ho:o=65-acc.length):(convert 160 9 (.slice (some ⟨q,o,none⟩) m c)).run Tryz.prog w= .ok (.string ⟨acc.toArray⟩) w:=by
 subst hm
 subst ho
 refine run_convert_bytes_back (P:=Tryz.prog) w 160 9 5 ⟨q,65-acc.length,none⟩ c acc Tryz.underlying160 Tryz.underlying5 Tryz.underlying9 fun j hj=> ?_
 have e:(⟨q,65-acc.length,none⟩:Addr).add j=⟨q,65-acc.length+j,none⟩:=by rw [Addr.add_mid]
 rw [e,cell_of_row w q _ _ _ (0,0) h]
 exact Ux.dcur_at hl (List.getElem?_eq_getElem hj)
set_option maxHeartbeats 4000000 in
set_option maxRecDepth 100000 in
theorem fbits_ (u:Nat) (hu:u<65536) (w:World) (hT:TabD w):Calls Tryz.prog 226 #[.slice none 0 0,.int .u64 u,.int .i64 16,.bool false,.bool false] w fun e w'=>e= .returned (.tuple #[.slice none 0 0,.string ⟨(hexS u).toArray⟩])∧Ux.Touch (fun _=>False) w w':=by
 have HT:=Lib.hid fun w' (T:Ux.Touch (fun _=>False) w w')=>tz_ w' (hT.touch T)
 obtain ⟨q,hq⟩: ∃q,w.heap.size=q:=⟨_,rfl⟩
 obtain ⟨R,hR⟩: ∃R,hexS u=R:=⟨_,rfl⟩
 rw [hR]
 have HR:=Lib.hid (And.intro hR hu)
 clear hT hR hu
 go_enter Tryz.func226,Tryz.ntmps226
 go_wp2_with (first|(go_at_call 248;refine (pow2_ _).mono ?_;rintro e w' ⟨rfl,rfl⟩)|(go_at_call 249;refine (HT.out _ ((Ux.Touch.refl (fun _=>False) w).alloc _)).mono ?_;rintro e w' ⟨rfl,rfl⟩))
 go_loopg [1,13] 3 (fun g s1 s13 wr=> ∃(x:Nat) (acc:List UInt8) (k:Nat),s1= .int .u64 x∧s13= .int .i64 k∧acc.length+k=65∧acc.length+g=3∧Hid (x<16^(g+1)∧x<65536∧hexGo (g+1) x acc=R∧wr.heap[q]? =some (.cells (dcur 65 acc) 323 (0,0))∧Ux.Touch (fun _=>False) w wr))
 case atStart=>
  refine ⟨u,[],65,rfl,rfl,rfl,rfl,Lib.hid ⟨HR.out.2,HR.out.2,HR.out.1,?_,(Ux.Touch.refl (fun _=>False) w).alloc _⟩⟩
  rw [←zero65,←hq]
  exact heap_alloc_new w _
 case round=>
  obtain ⟨x,acc,k,rfl,rfl,hk,hg,HI⟩:=hrel
  have hx:=HI.out.2.1
  have k1:(62:Int)≤k:=by omega
  have k2:(k:Int)≤65:=by omega
  obtain ⟨k',rfl⟩: ∃k',k=k'+1:=⟨k-1,by omega⟩
  have ek:(k':Int)+1-1=k':=by omega
  have hkk:k'=65-acc.length-1:=by omega
  have hc0:wr.cell? ⟨q,k',none⟩=some (.int .u8 0):=by
   rw [cell_of_row wr q k' _ _ (0,0) HI.out.2.2.2.1,hkk]
   exact Ux.dcur_zero (by omega)
  have hf0:=Ux.frozen_row HI.out.2.2.2.1 k'
  have HKK:=Lib.hid hkk
  have k3:(k':Int)≤65:=by omega
  clear hkk
  by_cases hlt:x<16
  ·have HD:=Lib.hid (Ux.hd_at x hlt)
   have x0: ¬(16:Int)≤x:=by omega
   have hrow:(wr.setCell ⟨q,k',none⟩ (.int .u8 ((hd x).toNat:Int))).heap[q]? =some (.cells (dcur 65 (hd x::acc)) 323 (0,0)):=by
    rw [Ux.setCell_row HI.out.2.2.2.1,HKK.out,Ux.dcur_set (by omega)]
   have hcv:=convD (m:=65-k') (c:=65-k') (o:=k') (by simp;omega) hrow (by simp;omega) (by simp;omega)
   have hres:R=hd x::acc:=by
    rw [←HI.out.2.2.1,hexGo,if_pos hlt]
   rw [←hres] at hcv
   clear hlt hx hrow hres
   go_wp2_with (refine Ux.is_index 9 rfl ?_;refine Ux.wpList_indexS rfl 9 _ x _ _ rfl lit36 (hd x) Tryz.underlying9 rfl rfl HD.out ?_)
   go_ret2
   exact ⟨rfl,HI.out.2.2.2.2.setCell (p:=⟨q,k',none⟩) (fun h=>by simp only at h;omega) _⟩
  ·obtain ⟨g',rfl⟩: ∃g',gk=g'+1:=⟨gk-1,by
    have:=HI.out.1
    cases gk with
    |zero=>omega
    |succ g=>omega⟩
   have x0:(16:Int)≤x:=by omega
   have e15:=and15 x hx
   have HD:=Lib.hid (Ux.hd_at (x % 16) (by omega))
   clear hlt hx
   go_wp2_with (refine Ux.is_index 9 rfl ?_;refine Ux.wpList_indexS rfl 9 _ (x % 16) _ _ rfl lit36 (hd (x % 16)) Tryz.underlying9 rfl rfl HD.out ?_)
   go_roundg g'
   case measure=>omega
   case rel=>
    have h1:=HI.out.1
    have h3:=HI.out.2.2.1
    rw [Nat.pow_succ] at h1
    rw [hexGo,if_neg (by omega)] at h3
    refine ⟨x/16,hd (x % 16)::acc,k',by congr 1,rfl,by simp;omega,by simp;omega,Lib.hid ⟨by omega,by have:=HI.out.2.1;omega,h3,?_,HI.out.2.2.2.2.setCell (p:=⟨q,k',none⟩) (fun h=>by simp only at h;omega) _⟩⟩
    rw [Ux.setCell_row HI.out.2.2.2.1,HKK.out,Ux.dcur_set (by omega)]
set_option maxHeartbeats 2000000 in
theorem ifmt_ (u:Nat) (hu:u<65536) (w:World) (hT:TabD w):Calls Tryz.prog 202 #[.int .i64 u,.int .i64 16] w fun e w'=>e= .returned (.string ⟨(hexS u).toArray⟩)∧Ux.Touch (fun _=>False) w w':=by
 have H:=Lib.hid (fbits_ u hu w hT)
 obtain ⟨r,hr⟩: ∃r:ByteArray,⟨(hexS u).toArray⟩=r:=⟨_,rfl⟩
 rw [hr] at H⊢
 have u1:(u:Int)<65536:=by omega
 clear hT hr hu
 go_enter Tryz.func202,Tryz.ntmps202
 go_wp2_with (go_at_call 226;refine H.out.mono ?_;rintro e w' ⟨rfl,T⟩)
 go_ret
 exact ⟨rfl,T⟩
set_option maxHeartbeats 2000000 in
theorem fmt_ (u:Nat) (hu:u<65536) (w:World) (hT:TabD w):Calls Tryz.prog 162 #[.int .i64 u,.int .i64 16] w fun e w'=>e= .returned (.string ⟨(hexS u).toArray⟩)∧Ux.Touch (fun _=>False) w w':=by
 have H:=Lib.hid (ifmt_ u hu w hT)
 obtain ⟨r,hr⟩: ∃r:ByteArray,⟨(hexS u).toArray⟩=r:=⟨_,rfl⟩
 rw [hr] at H⊢
 clear hT hr hu
 go_enter Tryz.func162,Tryz.ntmps162
 go_wp2_with (go_at_call 202;refine H.out.mono ?_;rintro e w' ⟨rfl,T⟩)
 go_ret
 exact ⟨rfl,T⟩
theorem cat_bytes (a b:ByteArray):(a++b).data.toList=a.data.toList++b.data.toList:=by simp
theorem repeat_list (c:Nat):Lib.repeatL [48] c=List.replicate c (48:UInt8):=by
 induction c with
 |zero=>rfl
 |succ c ih=>rw [List.replicate_succ,←ih];rfl
set_option maxHeartbeats 4000000 in
set_option maxRecDepth 100000 in
theorem hex_ (u d:Nat) (D:Int) (hD:D=d) (hu:u<65536) (hd:(hexS u).length≤d) (hd4:d≤4) (w:World) (hT:TabD w):Calls Tryz.prog 116 #[.int .i64 u,.int .i64 D] w fun e w'=>e= .returned (.string ⟨(hexP d u).toArray⟩)∧Ux.Touch (fun _=>False) w w':=by
 subst hD
 have H:=Lib.hid (fmt_ u hu w hT)
 obtain ⟨r,hr⟩: ∃r:ByteArray,⟨(hexS u).toArray⟩=r:=⟨_,rfl⟩
 obtain ⟨m,hm⟩: ∃m,d=(hexS u).length+m:=⟨d-(hexS u).length,by omega⟩
 have hrs:r.size=(hexS u).length:=by rw [←hr];simp [ByteArray.size]
 have hrp:=Tryz.strings_Repeat ⟨#[48]⟩ m
 obtain ⟨rp,hrpe⟩: ∃rp:ByteArray,⟨(Lib.repeatL (⟨#[48]⟩:ByteArray).data.toList m).toArray⟩=rp:=⟨_,rfl⟩
 have hps:rp.size=m:=by
  rw [←hrpe]
  show (Lib.repeatL [48] m).toArray.size=m
  rw [repeat_list]
  simp
 have hfin:⟨(hexP d u).toArray⟩=rp++r:=by
  refine (Ux.txt_of ?_).symm
  rw [cat_bytes,←hr,←hrpe]
  show Lib.repeatL [48] m++_=_
  rw [repeat_list]
  unfold hexP
  rw [hm,Nat.add_sub_cancel_left]
 have HRP:=Lib.hid fun W=>hrp W (by omega) (by simp [ByteArray.size];omega)
 rw [hrpe] at HRP
 rw [hr] at H
 rw [hfin]
 have hsub:(d:Int)-(r.size:Int)=(m:Int):=by omega
 have hno: ¬9223372036854775807<rp.size+r.size:=by omega
 have m4:(m:Int)≤4:=by omega
 have m0:(0:Int)≤m:=by omega
 clear hT hr hu hrp hrpe hfin hm hrs hps hd hd4
 go_enter Tryz.func116,Tryz.ntmps116
 go_wp2_with (go_at_call 162;fail)
 refine H.out.mono ?_
 rintro e w' ⟨rfl,T⟩
 have HT:=Lib.hid T
 clear T
 go_wp2_with (go_at_call 163;fail)
 refine (HRP.out _).mono ?_
 rintro e w2 ⟨rfl,T2⟩
 have HT2:=Lib.hid T2
 clear T2
 go_wp2
 go_ret
 exact ⟨rfl,HT.out.trans (Ux.Touch.of_below HT2.out) fun _ _ f=>f⟩
theorem hexS_len {u m:Nat} (hu:u<16^m) (h1:1≤m) (h4:m≤4):(hexS u).length≤m:=by
 have:=Ux.hexGo_len2 4 u m [] hu h1 h4
 rw [List.length_nil,Nat.zero_add] at this
 exact this
theorem hexP_len {u d:Nat} (h:(hexS u).length≤d):(hexP d u).length=d:=by
 unfold hexP
 rw [List.length_append,List.length_replicate]
 omega
theorem eP_lt {x:Nat} (h:x<4294967296):eP x<65536:=by unfold eP;omega
theorem eS_lt (x:Nat):eS x<256:=by unfold eS;omega
theorem eT_lt (x:Nat):eT x<128:=by unfold eT;omega
set_option maxHeartbeats 8000000 in
set_option maxRecDepth 100000 in
theorem text_ (x:Nat) (hx:x<4294967296) (hv:eV x=false) (w:World) (hT:TabD w):Calls Tryz.prog 59 #[.int .u32 x] w fun e w'=> ∃t:ByteArray,e= .returned (.string t)∧t.data.toList=textE x∧Ux.Touch (fun _=>False) w w':=by
 have HW1:=Lib.hid fun W=>weight_ 1 x 1 rfl (.inl rfl) hx W
 have HW2:=Lib.hid fun W=>weight_ 2 x 2 rfl (.inr (.inl rfl)) hx W
 have HW3:=Lib.hid fun W=>weight_ 3 x 3 rfl (.inr (.inr rfl)) hx W
 have HV:=Lib.hid fun W=>vari_ x hx W
 have e1:wt 1 x=eP x:=rfl
 have e2:wt 2 x=eS x:=rfl
 have e3:wt 3 x=eT x:=rfl
 rw [e1] at HW1
 rw [e2] at HW2
 rw [e3] at HW3
 rw [hv] at HV
 have l1:(hexS (eP x)).length≤4:=hexS_len (m:=4) (by have:=eP_lt hx;omega) (by omega) (by omega)
 have l2:(hexS (eS x)).length≤2:=hexS_len (m:=2) (by have:=eS_lt x;omega) (by omega) (by omega)
 have l3:(hexS (eT x)).length≤2:=hexS_len (m:=2) (by have:=eT_lt x;omega) (by omega) (by omega)
 have HX1:=Lib.hid fun W (T:Ux.Touch (fun _=>False) w W)=>hex_ (eP x) 4 4 rfl (eP_lt hx) l1 (by omega) W (hT.touch T)
 have HX2:=Lib.hid fun W (T:Ux.Touch (fun _=>False) w W)=>hex_ (eS x) 2 2 rfl (by have:=eS_lt x;omega) l2 (by omega) W (hT.touch T)
 have HX3:=Lib.hid fun W (T:Ux.Touch (fun _=>False) w W)=>hex_ (eT x) 2 2 rfl (by have:=eT_lt x;omega) l3 (by omega) W (hT.touch T)
 obtain ⟨a,ha⟩: ∃a:ByteArray,⟨(hexP 4 (eP x)).toArray⟩=a:=⟨_,rfl⟩
 obtain ⟨b,hb⟩: ∃b:ByteArray,⟨(hexP 2 (eS x)).toArray⟩=b:=⟨_,rfl⟩
 obtain ⟨c,hc⟩: ∃c:ByteArray,⟨(hexP 2 (eT x)).toArray⟩=c:=⟨_,rfl⟩
 have sa:a.size=4:=by rw [←ha];show (hexP 4 (eP x)).toArray.size=4;rw [List.size_toArray,hexP_len l1]
 have sb:b.size=2:=by rw [←hb];show (hexP 2 (eS x)).toArray.size=2;rw [List.size_toArray,hexP_len l2]
 have sc:c.size=2:=by rw [←hc];show (hexP 2 (eT x)).toArray.size=2;rw [List.size_toArray,hexP_len l3]
 rw [ha] at HX1
 rw [hb] at HX2
 rw [hc] at HX3
 have hfin:textE x=(((((((⟨#[91]⟩:ByteArray)++a)++⟨#[46]⟩)++b)++⟨#[46]⟩)++c)++⟨#[93]⟩).data.toList:=by
  simp only [cat_bytes]
  unfold textE
  rw [hv,←ha,←hb,←hc]
  simp
 obtain ⟨p,hp⟩: ∃p,eP x=p:=⟨_,rfl⟩
 obtain ⟨s,hs⟩: ∃s,eS x=s:=⟨_,rfl⟩
 obtain ⟨t,ht⟩: ∃t,eT x=t:=⟨_,rfl⟩
 rw [hp] at HX1 HW1
 rw [hs] at HX2 HW2
 rw [ht] at HX3 HW3
 rw [hfin]
 clear hfin ha hb hc e1 e2 e3 l1 l2 l3 hp hs ht hv hT hx
 go_enter Tryz.func59,Tryz.ntmps59
 go_wp2_with (go_at_call 115;fail)
 refine (HV.out _).mono ?_
 rintro e w' ⟨rfl,rfl⟩
 go_wp2_with (go_at_call 44;fail)
 refine (HW1.out _).mono ?_
 rintro e w' ⟨rfl,rfl⟩
 go_wp2_with (go_at_call 116;fail)
 refine (HX1.out _ (Ux.Touch.refl _ _)).mono ?_
 rintro e w1 ⟨rfl,T1⟩
 have T1:=Lib.hid T1
 go_wp2_with (go_at_call 44;fail)
 refine (HW2.out _).mono ?_
 rintro e w' ⟨rfl,rfl⟩
 go_wp2_with (go_at_call 116;fail)
 refine (HX2.out _ T1.out).mono ?_
 rintro e w2 ⟨rfl,T2⟩
 have T2:=Lib.hid (T1.out.trans T2 fun _ _ f=>f)
 go_wp2_with (go_at_call 44;fail)
 refine (HW3.out _).mono ?_
 rintro e w' ⟨rfl,rfl⟩
 go_wp2_with (go_at_call 116;fail)
 refine (HX3.out _ T2.out).mono ?_
 rintro e w3 ⟨rfl,T3⟩
 have T3:=Lib.hid (T2.out.trans T3 fun _ _ f=>f)
 go_wp2
 go_ret
 exact ⟨_,rfl,rfl,T3.out⟩
end Go.Proofs.YtfccjaboicpohaaGreatDoor
namespace Go.Proofs.YtfccjaboicpohaaGreatDoor
open Go.RowKit
open Ux (Row iv sv bv Ent ev eP eS eT eV eMk eLetter eMark rootE elemsE textE)
open Ux.Sign (cp raw signs)
theorem lit_ab:signs (⟨#[97,98]⟩:ByteArray).data.toList= [97,98]:=Ux.Sign.signs_ascii _ (by decide)
theorem lit_e9:signs (⟨#[195,169]⟩:ByteArray).data.toList= [233]:=by
 show signs [195,169]= [233]
 rw [Ux.Sign.signs_cons (by simp)]
 have h1:Ux.Sign.sg [195,169]=(233,2):=by decide+kernel
 rw [h1]
 show 233::signs []= [233]
 unfold signs
 rfl
theorem el_ab:elemsE rootE [97,98]= [eLetter 0 2,eLetter 1 2]:=by decide+kernel
theorem el_e9:elemsE rootE [233]= [eLetter 4 2,eMark 769]:=by decide+kernel
theorem tx_a:textE (eLetter 0 2)= [91,48,49,48,48,46,50,48,46,48,50,93]:=by decide+kernel
theorem tx_b:textE (eLetter 1 2)= [91,48,49,48,56,46,50,48,46,48,50,93]:=by decide+kernel
theorem tx_m:textE (eMark 769)= [91,48,48,48,48,46,50,52,46,48,50,93]:=by decide+kernel
set_option maxHeartbeats 4000000 in
set_option maxRecDepth 100000 in
theorem awake5_ (w:World) (hT:Tabs w) (hD:TabD w):Calls Tryz.prog 17 #[] w fun e w'=>e= .returned (.bool true)∧Ux.Touch (fun _=>False) w w':=by
 have HT:=Lib.hid (And.intro hT hD)
 clear hT hD
 go_enter Tryz.func17,Tryz.ntmps17
 go_wp2_with (go_at_call 10;fail)
 refine (rootT_ w).mono ?_
 rintro e w1 ⟨B,mb,rfl,h1,_,T1⟩
 have H1:=Lib.hid (And.intro h1 T1)
 clear h1 T1
 go_wp2_with (go_at_call 43;fail)
 refine (elements_ B mb rootE ⟨#[97,98]⟩ w1 H1.out.1 (HT.out.1.touch H1.out.2) (by decide)).mono ?_
 rintro e w2 ⟨u,rfl,hu,T2⟩
 rw [lit_ab,el_ab] at hu
 obtain ⟨a1,c1,hu1,hc1⟩:=hu.is
 have hu1:u= .slice a1 2 c1:=hu1
 subst hu1
 obtain ⟨g1,rfl,_,ha⟩:=hc1 0 _ rfl
 obtain ⟨g2,hg,_,hb⟩:=hc1 1 _ rfl
 cases hg
 have H2:=Lib.hid (And.intro T2 (And.intro ha hb))
 clear T2 ha hb hc1 hu
 go_wp2_with (go_at_call 43;fail)
 refine (elements_ B mb rootE ⟨#[195,169]⟩ w2 (H1.out.1.touch0 H2.out.1) ((HT.out.1.touch H1.out.2).touch H2.out.1) (by decide)).mono ?_
 rintro e w3 ⟨u,rfl,hu,T3⟩
 rw [lit_e9,el_e9] at hu
 obtain ⟨a3,c3,hu1,hc3⟩:=hu.is
 have hu1:u= .slice a3 2 c3:=hu1
 subst hu1
 obtain ⟨g3,rfl,_,hm⟩:=hc3 1 _ rfl
 have hx1:=T3.cell H2.out.2.1 (fun f=>f)
 have hx2:=T3.cell H2.out.2.2 (fun f=>f)
 have T13:=(H1.out.2.trans H2.out.1 fun _ _ f=>f).trans T3 fun _ _ f=>f
 have HX:=Lib.hid (And.intro hx2 (And.intro hm T13))
 have HT3:=Lib.hid ((H1.out.1.touch0 H2.out.1).touch0 T3)
 clear hx2 hm T13 hu hc3 T3
 go_wp2_with (go_at_call 59;fail)
 refine (text_ (eLetter 0 2) (by decide) (by decide) w3 (HT.out.2.touch HX.out.2.2)).mono ?_
 rintro e w4 ⟨t,rfl,ht,T4⟩
 have ht:=Ux.txt_of (ht.trans tx_a)
 subst ht
 have hx2:=T4.cell HX.out.1 (fun f=>f)
 have T4:=Lib.hid T4
 clear hx1
 go_wp2_with (go_at_call 59;fail)
 refine (text_ (eLetter 1 2) (by decide) (by decide) w4 ((HT.out.2.touch HX.out.2.2).touch T4.out)).mono ?_
 rintro e w5 ⟨t,rfl,ht,T5⟩
 have ht:=Ux.txt_of (ht.trans tx_b)
 subst ht
 have T5:=Lib.hid (T4.out.trans T5 fun _ _ f=>f)
 have hx3:=T5.out.cell HX.out.2.1 (fun f=>f)
 clear hx2
 go_wp2_with (go_at_call 59;fail)
 refine (text_ (eMark 769) (by decide) (by decide) w5 ((HT.out.2.touch HX.out.2.2).touch T5.out)).mono ?_
 rintro e w6 ⟨t,rfl,ht,T6⟩
 have ht:=Ux.txt_of (ht.trans tx_m)
 subst ht
 have T6:=Lib.hid (T5.out.trans T6 fun _ _ f=>f)
 clear hx3
 go_wp2_with (go_at_call 23;fail)
 have hck:=check_ B mb rootE w6 (HT3.out.touch0 T6.out) rootE_sig
 rw [rootE_check] at hck
 refine hck.mono ?_
 rintro e w7 ⟨rfl,T7⟩
 have T7:=Lib.hid T7
 clear hck
 go_wp2
 go_ret
 exact ⟨rfl,(HX.out.2.2.trans T6.out fun _ _ f=>f).trans T7.out fun _ _ f=>f⟩
end Go.Proofs.YtfccjaboicpohaaGreatDoor
