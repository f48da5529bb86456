/- A part of the proof that the statement holds for every input that it names. No other condition. -/
import Derived.Test.YtmonfaepfbpdpaaLexAZ
set_option linter.unusedVariables false
set_option linter.unusedSimpArgs false
namespace Go.Proofs.Ytmonfaepfbpdpaa
open Go.RowKit
open Ux (i64B)
def LexR (w w':World) (e:Ending):Prop:= ∃la ln lc at' er,e= .returned (.agg #[.slice la ln lc,.int .i64 at',.int .i64 er])∧i64B at'∧(0≤er∧er≤100)∧ln≤4000∧ln≤lc∧(∀(q:Nat) (w2:World),w'.heap.size≤q→Ux.Touch (fun b=>b<w.heap.size) w' w2→Tok w2 q la ln)∧Ux.Touch (fun _=>False) w w'
theorem lex_err {w w':World} {at' er:Int} (T:Ux.Touch (fun _=>False) w w') (ha:i64B at') (h0:0≤er) (h1:er≤100):LexR w w' (.returned (.agg #[.slice none 0 0,.int .i64 at',.int .i64 er])):=
 ⟨none,0,0,at',er,rfl,ha,⟨h0,h1⟩,by omega,by omega,fun q _ _ _ i hi=>by omega,T⟩
def TokI (w wr:World) (b2:Nat) (v:Value) (k:Nat):Prop:=TG wr (b2+1) v k∧wr.heap[b2]? =some (.cells #[.slice none 0 0,.int .i64 0,.int .i64 0] 69 (0,0))∧Ux.Touch (fun _=>False) w wr∧w.heap.size=b2
theorem TokI.touch0 {w wr w':World} {b2:Nat} {v:Value} {k:Nat} (h:TokI w wr b2 v k) (T:Ux.Touch (fun _=>False) wr w'):TokI w w' b2 v k:=⟨h.1.touch0 T,T.heap h.2.1 (fun f=>f),h.2.2.1.trans T fun _ _ e=>e,h.2.2.2⟩
theorem TokI.app {w wr:World} {b2:Nat} {v:Value} {k:Nat} (h:TokI w wr b2 v k) (kd m p:Int) (s:ByteArray) (c0:i64B kd) (c1:i64B m) (c2:i64B p) (c3:s.size≤4000) (hk:k≤10000):
 ∃ra rc w',(∀ty,(Builtin.append_ #[67,67] ty #[v,.slice (some ⟨wr.heap.size,0,none⟩) 1 1]).run Try.prog (wr.alloc (.cells #[.int .i64 kd,.string s,.int .i64 m,.int .i64 p] 86))= .ok (.slice ra (k+1) rc) w')∧TokI w w' b2 (.slice ra (k+1) rc) (k+1):=by
 obtain ⟨h1,h2,h3,h4⟩:=h
 have hb:=Ux.lt_of_heap h2
 obtain ⟨r,w',e1,e2,e3⟩:=h1.app kd m p s c0 c1 c2 c3 (by omega) hk
 obtain ⟨ra,rc,rfl⟩: ∃ra rc,r= .slice ra (k+1) rc:=by obtain ⟨xs,g1,_⟩:=e2;obtain ⟨a',c',e,_⟩:=g1.is;exact ⟨a',c',e⟩
 exact ⟨ra,rc,w',e1,e2,e3.heap h2 (fun f=>by omega),h3.trans e3 fun b hb e=>by omega,h4⟩
theorem lex_ok {w wr w':World} {b2:Nat} {la:Option Addr} {ln lc:Nat} (h:TokI w wr b2 (.slice la ln lc) ln) (T:Ux.Touch (fun b=>b=b2) wr w') (hn:ln≤4000):LexR w w' (.returned (.agg #[.slice la ln lc,.int .i64 0,.int .i64 0])):=by
 obtain ⟨⟨xs,k1,k2⟩,h2,h3,h4⟩:=h
 have hg:TG w' (b2+1) (.slice la ln lc) ln:=⟨xs,k1.touch T fun b hb e=>by omega,k2⟩
 exact ⟨la,ln,lc,0,0,rfl,by unfold i64B;omega,by omega,hn,k1.cap,fun q w2 hq T2=>(hg.tok hq T2 fun b hb e=>by omega).1,h3.trans T fun b hb e=>by omega⟩
theorem i64_nat {k:Nat} (h:k≤4000):i64B (k:Int):=by unfold i64B;omega
set_option maxHeartbeats 16000000 in
set_option maxRecDepth 100000 in
theorem tokens_ (s:ByteArray) (w:World) (hs:s.size≤140737488355328):Calls Try.prog 35 #[.string s] w fun e w'=>LexR w w' e:=by
 obtain ⟨n,hn⟩: ∃n,s.size=n:=⟨_,rfl⟩
 rw [hn] at hs
 have j0:(n:Int)≤140737488355328:=by omega
 obtain ⟨b2,hb2⟩: ∃b,w.heap.size=b:=⟨_,rfl⟩
 obtain ⟨W1,hW1⟩: ∃W,w.alloc (.cells #[.slice none 0 0,.int .i64 0,.int .i64 0] 69)=W:=⟨_,rfl⟩
 have t1:Ux.Touch (fun _=>False) w W1:=by rw [←hW1];exact (Ux.Touch.refl _ _).alloc _
 have r1:W1.heap[b2]? =some (.cells #[.slice none 0 0,.int .i64 0,.int .i64 0] 69 (0,0)):=by rw [←hW1,←hb2];exact heap_alloc_new w _
 have HI0:TokI w W1 b2 (.slice none 0 0) 0:=⟨TG.nil _ _,r1,t1,hb2⟩
 by_cases h4:n>4000
 ·have j4:(n:Int)>4000:=by omega
  have HI:=HI0
  clear h4 hs t1 HI0
  go_enter Try.func35,Try.ntmps35
  have rb:=HI.2.1
  go_wp2_with (refine Ux.is_store 69 rfl ?_;refine Ux.storeN rfl 69 _ _ rfl b2 _ rfl rfl 69 _ rb (by kernel_rfl) rfl (by simp [Value.oneCell']) ?_)
  intro WE rE tE
  clear rb
  go_wp2_with (fail)
  have x0:=cell_of_row WE b2 0 _ _ (0,0) rE
  have x1:=cell_of_row WE b2 1 _ _ (0,0) rE
  have x2:=cell_of_row WE b2 2 _ _ (0,0) rE
  simp at x0 x1 x2
  refine bodyPost_ret (by simp [results,Try.results35,go_sem,x0,x1,x2];try rfl) rfl ?_
  exact lex_err (HI.2.2.1.trans tE fun b hb e=>by have:=HI.2.2.2;omega) (litB (by decide) (by decide)) (by decide) (by decide)
 ·have hle:n≤4000:=by omega
  have j4: ¬(n:Int)>4000:=by omega
  have j5:(n:Int)≤4000:=by omega
  have HLE:=Lib.hid (And.intro hle hn)
  clear h4 hs t1 hle r1 hn
  have hn:=HLE.out.2
  go_enter Try.func35,Try.ntmps35
  go_wp2_with (fail)
  clear hW1 hb2
  go_loopg [3,4] n (fun gk s3 s4 wr=> ∃(ua:Option Addr) (un uc i:Nat),s3= .slice ua un uc∧s4= .int .i64 i∧i≤n∧n<i+gk+1∧Hid (un≤i)∧TokI w wr b2 (.slice ua un uc) un)
  case atStart=>exact ⟨none,0,0,0,rfl,rfl,by omega,by omega,Lib.hid (by omega),HI0⟩
  case round=>
   clear HI0
   obtain ⟨ua,un,uc,i,rfl,rfl,hin,hig,HU,HI⟩:=hrel
   have i0:(0:Int)≤i:=by omega
   by_cases hlt:i<n
   ·obtain ⟨g',rfl⟩: ∃g',gk=g'+1:=⟨gk-1,by omega⟩
    have i1:(i:Int)<n:=by omega
    have hi4:i≤4000:=by have:=HLE.out.1;omega
    have HH:=Lib.hid (And.intro hlt (And.intro hig hi4))
    clear hlt hig hin hi4
    go_upto_region 6 with (fail)
    go_cut [5] (fun s5 wx=> ∃x:Int,s5= .int .u8 x∧Hid (∀h:i<s.size,x=(s[i].toNat:Int))∧wr=wx)
    case first=>
     go_wp2_with (fail)
     all_goals go_meet
     all_goals exact ⟨_,rfl,Lib.hid fun _=>rfl,rfl⟩
    obtain ⟨x,rfl,HX,rfl⟩:=hcut
    go_upto_region 7 with (fail)
    go_cut [5,38] (fun s5 s38 wx=> ∃(x:Int) (z:Bool),s5= .int .u8 x∧s38= .bool z∧Hid (∀h:i<s.size,x=(s[i].toNat:Int))∧wr=wx)
    case first=>
     go_wp2_with (fail)
     all_goals go_meet
     all_goals exact ⟨_,_,rfl,rfl,Lib.hid (fun h=>by have:=HX.out h;omega),rfl⟩
    clear HX x
    obtain ⟨x,z,rfl,rfl,HX,rfl⟩:=hcut
    cases z with
    |true=>
     go_wp2_with (fail)
     go_roundg g'
     case measure=>omega
     case rel=>exact ⟨ua,un,uc,i+1,rfl,rfl,HH.out.1,by have:=HH.out;omega,Lib.hid (by have:=HU.out;omega),HI⟩
    |false=>
     go_upto_region 9 with (fail)
     go_cut [56] (fun s56 wx=> ∃z,s56= .bool z∧Hid (z=true→x=45)∧wr=wx)
     case first=>
      obtain ⟨z,hz⟩: ∃b,(x==45)=b:=⟨_,rfl⟩
      cases z with
      |true=>
       have hx:x=45:=by simpa using hz
       have HX2:=Lib.hid hx
       clear hx
       by_cases h2:i+1<n
       ·have i2:(i:Int)+1<n:=by omega
        go_wp2_with (fail)
        all_goals go_meet
        all_goals exact ⟨_,rfl,Lib.hid fun _=>HX2.out,rfl⟩
       ·have i2: ¬(i:Int)+1<n:=by omega
        go_wp2_with (fail)
        all_goals go_meet
        all_goals exact ⟨_,rfl,Lib.hid fun _=>HX2.out,rfl⟩
      |false=>
       go_wp2_with (fail)
       all_goals go_meet
       all_goals exact ⟨_,rfl,Lib.hid (fun h=>by cases h),rfl⟩
     obtain ⟨z,rfl,HZ,rfl⟩:=hcut
     cases z with
     |true=>
      as_aux_lemma=>
       go_wp2_with (fail)
       go_loopg [4] (n-i) (fun g2 s4 wy=> ∃k:Nat,s4= .int .i64 k∧i≤k∧k+g2=n∧wy=wr)
       case atStart=>exact ⟨i,rfl,Nat.le_refl _,by have:=HH.out.1;omega,rfl⟩
       case round=>
        obtain ⟨k,rfl,hik,hkg,hw⟩:=hrel
        subst hw
        have k0:(0:Int)≤k:=by omega
        by_cases hk:k<n
        ·obtain ⟨g2',rfl⟩: ∃g2',gk=g2'+1:=⟨gk-1,by omega⟩
         have k1:(k:Int)<n:=by omega
         have HK:=Lib.hid (And.intro hik (And.intro hkg hk))
         clear hik hkg hk
         go_upto_region 10 with (fail)
         go_cut [66] (fun s66 wx=> ∃z,s66= .bool z∧Hid (z=false→i<k)∧wr=wx)
         case first=>
          go_wp2_with (fail)
          all_goals go_meet
          all_goals refine ⟨_,rfl,Lib.hid fun h=> ?_,rfl⟩
          all_goals refine Nat.lt_of_le_of_ne HK.out.1 fun e=> ?_
          all_goals subst e
          all_goals have h1:=HX.out (by have:=HH.out.1;omega)
          all_goals have h2:=HZ.out (by simp)
          all_goals rw [←h1,h2] at h
          all_goals exact absurd h (by decide)
         obtain ⟨z,rfl,HZ2,rfl⟩:=hcut
         cases z with
         |true=>
          go_wp2_with (fail)
          go_roundg g2'
          case measure=>omega
          case rel=>exact ⟨k+1,rfl,by have:=HK.out;omega,by have:=HK.out;omega,rfl⟩
         |false=>
          go_wp2_with (fail)
          go_roundg g'
          case measure=>omega
          case rel=>exact ⟨ua,un,uc,k,rfl,rfl,by have:=HK.out;omega,by have:=HZ2.out (by simp);have:=HH.out;omega,Lib.hid (by have:=HU.out;have:=HK.out;omega),HI⟩
        ·have k1: ¬(k:Int)<n:=by omega
         have hkn:k=n:=by omega
         have HK:=Lib.hid hkn
         clear hik hkg hk hkn
         go_wp2_with (fail)
         go_roundg g'
         case measure=>omega
         case rel=>exact ⟨ua,un,uc,k,rfl,rfl,by have:=HK.out;omega,by have:=HK.out;have:=HH.out;omega,Lib.hid (by have:=HU.out;have:=HK.out;have:=HH.out;omega),HI⟩
     |false=>
      clear HZ
      go_wp2_with (go_at_call 44;fail)
      refine (digit_ x _).mono ?_
      rintro e w1 ⟨rfl,hw⟩
      obtain rfl:wr=w1:=hw.symm
      clear hw
      obtain ⟨zd,hzd⟩: ∃b,digB x=b:=⟨_,rfl⟩
      rw [hzd]
      have HZD:=Lib.hid hzd
      clear hzd
      cases zd with
      |true=>
       as_aux_lemma=>
        go_wp2_with (fail)
        go_loopg [6] (n-i) (fun g2 s6 wy=> ∃k:Nat,s6= .int .i64 k∧i≤k∧k+g2=n∧wy=wr)
        case atStart=>exact ⟨i,rfl,Nat.le_refl _,by have:=HH.out.1;omega,rfl⟩
        case round=>
         obtain ⟨k,rfl,hik,hkg,hw⟩:=hrel
         subst hw
         have k0:(0:Int)≤k:=by omega
         have HK:=Lib.hid (And.intro hik hkg)
         clear hik hkg
         go_upto_region 19 with (fail)
         go_cut [100] (fun st wx=> ∃z,st= .bool z∧Hid (z=true→k<n)∧Hid (z=false→i<k)∧wr=wx)
         case first=>
          as_aux_lemma=>
           by_cases hk:k<n
           ·have k1:(k:Int)<n:=by omega
            have HKN:=Lib.hid hk
            clear hk
            go_wp2_with (go_at_call 44;fail)
            refine (digit_ _ _).mono ?_
            rintro e w1 ⟨rfl,hw⟩
            obtain rfl:wr=w1:=hw.symm
            clear hw
            go_wp2_with (fail)
            all_goals go_meet
            all_goals refine ⟨_,rfl,Lib.hid (fun _=>HKN.out),Lib.hid fun h=> ?_,rfl⟩
            all_goals refine Nat.lt_of_le_of_ne HK.out.1 fun e=> ?_
            all_goals subst e
            all_goals have h1:=HX.out (by have:=HH.out.1;omega)
            all_goals rw [←h1,HZD.out] at h
            all_goals exact absurd h (by decide)
           ·have k1: ¬(k:Int)<n:=by omega
            have hki:i<k:=by have:=HH.out.1;omega
            have HKI:=Lib.hid hki
            clear hk hki
            go_wp2_with (fail)
            all_goals go_meet
            all_goals exact ⟨false,rfl,Lib.hid (fun h=>by cases h),Lib.hid (fun _=>HKI.out),rfl⟩
         obtain ⟨z,rfl,HZ1,HZ2,rfl⟩:=hcut
         cases z with
         |true=>
          obtain ⟨g2',rfl⟩: ∃g2',gk=g2'+1:=⟨gk-1,by have:=HZ1.out (by simp);have:=HK.out;omega⟩
          have k1:(k:Int)<n:=by have:=HZ1.out (by simp);omega
          go_wp2_with (fail)
          go_roundg g2'
          case measure=>omega
          case rel=>exact ⟨k+1,rfl,by have:=HK.out;omega,by have:=HK.out;omega,rfl⟩
         |false=>
          have HKK:Hid (i<k∧k≤n):=Lib.hid ⟨HZ2.out (by simp),by have:=HK.out;omega⟩
          clear HK HZ1 HZ2 HX HZD
          have k2:(k:Int)≤n:=by have:=HKK.out;omega
          have k3:(i:Int)≤k:=by have:=HKK.out;omega
          have HE:Hid (0<(s.extract i k).size∧(s.extract i k).size≤4000):=Lib.hid (by have:=HKK.out;have:=HLE.out;rw [ByteArray.size_extract];omega)
          go_wp2_with (go_at_call 45;fail)
          refine (parse_ (s.extract i k) _ HE.out.1 HE.out.2).mono ?_
          rintro e w1 ⟨⟨x1,y1,rfl,hx1,hy1⟩,hw⟩
          obtain rfl:wr=w1:=hw.symm
          have HX1:=Lib.hid hx1
          clear hw hx1 hy1
          go_upto_region 22 with (fail)
          go_cut [124] (fun st wx=> ∃z,st= .bool z∧wr=wx)
          case first=>
           as_aux_lemma=>
            obtain ⟨zy,hzy⟩: ∃b,(y1 !=0)=b:=⟨_,rfl⟩
            by_cases hk:k<n
            ·have k1:(k:Int)<n:=by omega
             clear hk
             cases zy<;>go_wp2_with (go_at_call 46;fail)
             all_goals first
              |(go_meet;exact ⟨_,rfl,rfl⟩)
              |(refine (letter_ _ _).mono ?_;rintro e w2 ⟨rfl,hw⟩;obtain rfl:wr=w2:=hw.symm;clear hw;go_wp2_with (fail);all_goals go_meet;all_goals exact ⟨_,rfl,rfl⟩)
            ·have k1: ¬(k:Int)<n:=by omega
             clear hk
             cases zy<;>go_wp2_with (fail)
             all_goals go_meet
             all_goals exact ⟨_,rfl,rfl⟩
          obtain ⟨z,rfl,rfl⟩:=hcut
          cases z with
          |true=>
           as_aux_lemma=>
            have rb:=HI.2.1
            go_wp2_with (refine Ux.is_store 69 rfl ?_;refine Ux.storeN rfl 69 _ _ rfl b2 _ rfl rfl 69 _ rb (by kernel_rfl) rfl (by simp [Value.oneCell']) ?_)
            intro WE rE tE
            clear rb
            go_wp2_with (fail)
            have x0:=cell_of_row WE b2 0 _ _ (0,0) rE
            have x1:=cell_of_row WE b2 1 _ _ (0,0) rE
            have x2:=cell_of_row WE b2 2 _ _ (0,0) rE
            simp at x0 x1 x2
            refine bodyPost_ret (by simp [results,Try.results35,go_sem,x0,x1,x2];try rfl) rfl ?_
            exact lex_err (HI.2.2.1.trans tE fun b hb e=>by have:=HI.2.2.2;omega) (i64_nat HH.out.2.2) (by decide) (by decide)
          |false=>
           as_aux_lemma=>
            obtain ⟨ra,rc,W7,hrun,h7⟩:=HI.app 3 x1 (i:Int) (⟨#[]⟩:ByteArray) (litB (by decide) (by decide)) HX1.out (i64_nat HH.out.2.2) (Nat.zero_le _) (by have:=HU.out;have:=HH.out.2.2;omega)
            obtain ⟨g9,hg9⟩: ∃X,wr.heap.size=X:=⟨_,rfl⟩
            obtain ⟨W6,hW6⟩: ∃W,wr.alloc (.cells #[.int .i64 3,.string (⟨#[]⟩:ByteArray),.int .i64 x1,.int .i64 (i:Int)] 86)=W:=⟨_,rfl⟩
            rw [hg9,hW6] at hrun
            have H7:=Lib.hid (And.intro hrun h7)
            clear hrun h7
            go_wp2_with (at_builtin;refine Ux.wpList_app (v1:= .slice ua un uc) (x1:= .slice (some ⟨g9,0,none⟩) 1 1) rfl _ _ _ _ rfl rfl rfl (H7.out.1 _) ?_)
            clear hg9 hW6
            go_wp2_with (fail)
            go_roundg g'
            case measure=>omega
            case rel=>
             have hnx:=HKK.out
             exact ⟨ra,un+1,rc,k,rfl,rfl,hnx.2,by have:=HH.out.2.1;omega,Lib.hid (by have:=HU.out;omega),H7.out.2⟩
      |false=>
       clear HZD
       go_wp2_with (go_at_call 46;fail)
       refine (letter_ x _).mono ?_
       rintro e w1 ⟨rfl,hw⟩
       obtain rfl:wr=w1:=hw.symm
       clear hw
       obtain ⟨zd,hzd⟩: ∃b,letB x=b:=⟨_,rfl⟩
       rw [hzd]
       have HZD:=Lib.hid hzd
       clear hzd
       cases zd with
       |true=>
        as_aux_lemma=>
         go_wp2_with (fail)
         go_loopg [6] (n-i) (fun g2 s6 wy=> ∃k:Nat,s6= .int .i64 k∧i≤k∧k+g2=n∧wy=wr)
         case atStart=>exact ⟨i,rfl,Nat.le_refl _,by have:=HH.out.1;omega,rfl⟩
         case round=>
          obtain ⟨k,rfl,hik,hkg,hw⟩:=hrel
          subst hw
          have k0:(0:Int)≤k:=by omega
          have HK:=Lib.hid (And.intro hik hkg)
          clear hik hkg
          go_upto_region 26 with (fail)
          go_cut [145] (fun st wx=> ∃z,st= .bool z∧Hid (z=true→k<n)∧Hid (z=false→i<k)∧wr=wx)
          case first=>
           as_aux_lemma=>
            by_cases hk:k<n
            ·have k1:(k:Int)<n:=by omega
             have HKN:=Lib.hid hk
             clear hk
             go_wp2_with (go_at_call 46;fail)
             refine (letter_ _ _).mono ?_
             rintro e w1 ⟨rfl,hw⟩
             obtain rfl:wr=w1:=hw.symm
             clear hw
             go_wp2_with (fail)
             all_goals go_meet
             all_goals refine ⟨_,rfl,Lib.hid (fun _=>HKN.out),Lib.hid fun h=> ?_,rfl⟩
             all_goals refine Nat.lt_of_le_of_ne HK.out.1 fun e=> ?_
             all_goals subst e
             all_goals have h1:=HX.out (by have:=HH.out.1;omega)
             all_goals rw [←h1,HZD.out] at h
             all_goals exact absurd h (by decide)
            ·have k1: ¬(k:Int)<n:=by omega
             have hki:i<k:=by have:=HH.out.1;omega
             have HKI:=Lib.hid hki
             clear hk hki
             go_wp2_with (fail)
             all_goals go_meet
             all_goals exact ⟨false,rfl,Lib.hid (fun h=>by cases h),Lib.hid (fun _=>HKI.out),rfl⟩
          obtain ⟨z,rfl,HZ1,HZ2,rfl⟩:=hcut
          cases z with
          |true=>
           obtain ⟨g2',rfl⟩: ∃g2',gk=g2'+1:=⟨gk-1,by have:=HZ1.out (by simp);have:=HK.out;omega⟩
           have k1:(k:Int)<n:=by have:=HZ1.out (by simp);omega
           go_wp2_with (fail)
           go_roundg g2'
           case measure=>omega
           case rel=>exact ⟨k+1,rfl,by have:=HK.out;omega,by have:=HK.out;omega,rfl⟩
          |false=>
           have HKK:Hid (i<k∧k≤n):=Lib.hid ⟨HZ2.out (by simp),by have:=HK.out;omega⟩
           clear HK HZ1 HZ2 HX HZD
           have k2:(k:Int)≤n:=by have:=HKK.out;omega
           have k3:(i:Int)≤k:=by have:=HKK.out;omega
           have HE:Hid (0<(s.extract i k).size∧(s.extract i k).size≤4000):=Lib.hid (by have:=HKK.out;have:=HLE.out;rw [ByteArray.size_extract];omega)
           by_cases h16:k-i>16
           ·have k4:(k:Int)-i>16:=by omega
            clear h16
            as_aux_lemma=>
             have rb:=HI.2.1
             go_wp2_with (refine Ux.is_store 69 rfl ?_;refine Ux.storeN rfl 69 _ _ rfl b2 _ rfl rfl 69 _ rb (by kernel_rfl) rfl (by simp [Value.oneCell']) ?_)
             intro WE rE tE
             clear rb
             go_wp2_with (fail)
             have x0:=cell_of_row WE b2 0 _ _ (0,0) rE
             have x1:=cell_of_row WE b2 1 _ _ (0,0) rE
             have x2:=cell_of_row WE b2 2 _ _ (0,0) rE
             simp at x0 x1 x2
             refine bodyPost_ret (by simp [results,Try.results35,go_sem,x0,x1,x2];try rfl) rfl ?_
             exact lex_err (HI.2.2.1.trans tE fun b hb e=>by have:=HI.2.2.2;omega) (i64_nat HH.out.2.2) (by decide) (by decide)
           ·have k4: ¬(k:Int)-i>16:=by have:=HKK.out;omega
            clear h16
            go_wp2_with (go_at_call 47;fail)
            refine (upper_ (s.extract i k) _ (by have:=HE.out.2;omega)).mono ?_
            rintro e w1 ⟨t,rfl,ht,T1⟩
            have h1:=HI.touch0 T1
            have HT:Hid (t.size≤4000):=Lib.hid (by have:=HE.out.2;omega)
            clear ht T1
            go_wp2_with (go_at_call 48;fail)
            refine (isWord_ t _).mono ?_
            rintro e w2 ⟨b,rfl,T2⟩
            have h2:=h1.touch0 T2
            clear T2 h1
            cases b with
            |true=>
              as_aux_lemma=>
              obtain ⟨ra,rc,W7,hrun,h7⟩:=h2.app 2 0 (i:Int) t (litB (by decide) (by decide)) (litB (by decide) (by decide)) (i64_nat HH.out.2.2) HT.out (by have:=HU.out;have:=HH.out.2.2;omega)
              obtain ⟨g9,hg9⟩: ∃X,w2.heap.size=X:=⟨_,rfl⟩
              obtain ⟨W6,hW6⟩: ∃W,w2.alloc (.cells #[.int .i64 2,.string t,.int .i64 0,.int .i64 (i:Int)] 86)=W:=⟨_,rfl⟩
              rw [hg9,hW6] at hrun
              have H7:=Lib.hid (And.intro hrun h7)
              clear hrun h7
              go_wp2_with (at_builtin;refine Ux.wpList_app (v1:= .slice ua un uc) (x1:= .slice (some ⟨g9,0,none⟩) 1 1) rfl _ _ _ _ rfl rfl rfl (H7.out.1 _) ?_)
              clear hg9 hW6
              go_wp2_with (fail)
              go_roundg g'
              case measure=>omega
              case rel=>
               have hnx:=HKK.out
               exact ⟨ra,un+1,rc,k,rfl,rfl,hnx.2,by have:=HH.out.2.1;omega,Lib.hid (by have:=HU.out;omega),H7.out.2⟩
            |false=>
             go_wp2_with (go_at_call 49;fail)
             refine (lower_ (s.extract i k) _ (by have:=HE.out.2;omega)).mono ?_
             rintro e w3 ⟨t3,rfl,ht3,T3⟩
             have h3:=h2.touch0 T3
             have HT3:Hid (t3.size≤4000):=Lib.hid (by have:=HE.out.2;omega)
             clear ht3 T3 h2
             as_aux_lemma=>
              obtain ⟨ra,rc,W7,hrun,h7⟩:=h3.app 1 0 (i:Int) t3 (litB (by decide) (by decide)) (litB (by decide) (by decide)) (i64_nat HH.out.2.2) HT3.out (by have:=HU.out;have:=HH.out.2.2;omega)
              obtain ⟨g9,hg9⟩: ∃X,w3.heap.size=X:=⟨_,rfl⟩
              obtain ⟨W6,hW6⟩: ∃W,w3.alloc (.cells #[.int .i64 1,.string t3,.int .i64 0,.int .i64 (i:Int)] 86)=W:=⟨_,rfl⟩
              rw [hg9,hW6] at hrun
              have H7:=Lib.hid (And.intro hrun h7)
              clear hrun h7
              go_wp2_with (at_builtin;refine Ux.wpList_app (v1:= .slice ua un uc) (x1:= .slice (some ⟨g9,0,none⟩) 1 1) rfl _ _ _ _ rfl rfl rfl (H7.out.1 _) ?_)
              clear hg9 hW6
              go_wp2_with (fail)
              go_roundg g'
              case measure=>omega
              case rel=>
               have hnx:=HKK.out
               exact ⟨ra,un+1,rc,k,rfl,rfl,hnx.2,by have:=HH.out.2.1;omega,Lib.hid (by have:=HU.out;omega),H7.out.2⟩
       |false=>
        clear HZD
        obtain ⟨zq,hzq⟩: ∃b,(x==39)=b:=⟨_,rfl⟩
        cases zq with
        |true=>
         as_aux_lemma=>
          go_wp2_with (go_at_call 50;fail)
          refine (text_ s i _ (by have:=HH.out.1;have:=HLE.out.2;omega) (by have:=HLE.out;omega)).mono ?_
          rintro e w1 ⟨⟨t,y,b,rfl,ht,hm⟩,hw⟩
          obtain rfl:wr=w1:=hw.symm
          have HT:Hid (t.size≤4000):=Lib.hid (by have:=HLE.out;omega)
          clear hw ht
          cases b with
          |false=>
           clear hm
           as_aux_lemma=>
            have rb:=HI.2.1
            go_wp2_with (refine Ux.is_store 69 rfl ?_;refine Ux.storeN rfl 69 _ _ rfl b2 _ rfl rfl 69 _ rb (by kernel_rfl) rfl (by simp [Value.oneCell']) ?_)
            intro WE rE tE
            clear rb
            go_wp2_with (fail)
            have x0:=cell_of_row WE b2 0 _ _ (0,0) rE
            have x1:=cell_of_row WE b2 1 _ _ (0,0) rE
            have x2:=cell_of_row WE b2 2 _ _ (0,0) rE
            simp at x0 x1 x2
            refine bodyPost_ret (by simp [results,Try.results35,go_sem,x0,x1,x2];try rfl) rfl ?_
            exact lex_err (HI.2.2.1.trans tE fun b hb e=>by have:=HI.2.2.2;omega) (i64_nat HH.out.2.2) (by decide) (by decide)
          |true=>
           obtain ⟨m,rfl,hm1,hm2⟩:=hm rfl
           have HKK:Hid (i<m∧m≤n):=Lib.hid ⟨hm1,by have:=HLE.out;omega⟩
           clear hm hm1 hm2
           as_aux_lemma=>
            obtain ⟨ra,rc,W7,hrun,h7⟩:=HI.app 4 0 (i:Int) t (litB (by decide) (by decide)) (litB (by decide) (by decide)) (i64_nat HH.out.2.2) HT.out (by have:=HU.out;have:=HH.out.2.2;omega)
            obtain ⟨g9,hg9⟩: ∃X,wr.heap.size=X:=⟨_,rfl⟩
            obtain ⟨W6,hW6⟩: ∃W,wr.alloc (.cells #[.int .i64 4,.string t,.int .i64 0,.int .i64 (i:Int)] 86)=W:=⟨_,rfl⟩
            rw [hg9,hW6] at hrun
            have H7:=Lib.hid (And.intro hrun h7)
            clear hrun h7
            go_wp2_with (at_builtin;refine Ux.wpList_app (v1:= .slice ua un uc) (x1:= .slice (some ⟨g9,0,none⟩) 1 1) rfl _ _ _ _ rfl rfl rfl (H7.out.1 _) ?_)
            clear hg9 hW6
            go_wp2_with (fail)
            go_roundg g'
            case measure=>omega
            case rel=>
             have hnx:=HKK.out
             exact ⟨ra,un+1,rc,m,rfl,rfl,hnx.2,by have:=HH.out.2.1;omega,Lib.hid (by have:=HU.out;omega),H7.out.2⟩
        |false=>
         as_aux_lemma=>
          have HE:Hid (0<(s.extract i n).size∧(s.extract i n).size≤n-i):=Lib.hid (by have:=HH.out;have:=HLE.out;rw [ByteArray.size_extract];omega)
          go_wp2_with (go_at_call 51;fail)
          refine (op_ (s.extract i n) HE.out.1 _).mono ?_
          rintro e w1 ⟨⟨t,rfl,ht,ht2⟩,hw⟩
          obtain rfl:wr=w1:=hw.symm
          obtain ⟨m,hm⟩: ∃m,t.size=m:=⟨_,rfl⟩
          have HT:Hid (m≤n-i∧t.size≤4000∧(t.toList.isEmpty=false→0<m)):=Lib.hid ⟨by have:=HE.out;omega,by have:=HE.out;have:=HLE.out;omega,fun h=>by
           rw [←hm]
           refine Nat.pos_of_ne_zero fun h0=> ?_
           have e0:t=⟨#[]⟩:=by
            cases t with
            |mk d=>have:d.size=0:=h0;rw [Array.eq_empty_of_size_eq_zero this]
           subst e0
           exact absurd h (by decide+kernel)⟩
          have m0:(m:Int)≤4000:=by have:=HT.out;omega
          have m1:(0:Int)≤m:=by omega
          clear hw ht ht2
          obtain ⟨ze,hze⟩: ∃b,t.toList.isEmpty=b:=⟨_,rfl⟩
          cases ze with
          |true=>
           as_aux_lemma=>
            have rb:=HI.2.1
            go_wp2_with (refine Ux.is_store 69 rfl ?_;refine Ux.storeN rfl 69 _ _ rfl b2 _ rfl rfl 69 _ rb (by kernel_rfl) rfl (by simp [Value.oneCell']) ?_)
            intro WE rE tE
            clear rb
            go_wp2_with (fail)
            have x0:=cell_of_row WE b2 0 _ _ (0,0) rE
            have x1:=cell_of_row WE b2 1 _ _ (0,0) rE
            have x2:=cell_of_row WE b2 2 _ _ (0,0) rE
            simp at x0 x1 x2
            refine bodyPost_ret (by simp [results,Try.results35,go_sem,x0,x1,x2];try rfl) rfl ?_
            exact lex_err (HI.2.2.1.trans tE fun b hb e=>by have:=HI.2.2.2;omega) (i64_nat HH.out.2.2) (by decide) (by decide)
          |false=>
           have HKK:Hid (i<i+m∧i+m≤n):=Lib.hid ⟨by have:=HT.out.2.2 hze;omega,by have:=HT.out;have:=HH.out;omega⟩
           as_aux_lemma=>
            obtain ⟨ra,rc,W7,hrun,h7⟩:=HI.app 5 0 (i:Int) t (litB (by decide) (by decide)) (litB (by decide) (by decide)) (i64_nat HH.out.2.2) HT.out.2.1 (by have:=HU.out;have:=HH.out.2.2;omega)
            obtain ⟨g9,hg9⟩: ∃X,wr.heap.size=X:=⟨_,rfl⟩
            obtain ⟨W6,hW6⟩: ∃W,wr.alloc (.cells #[.int .i64 5,.string t,.int .i64 0,.int .i64 (i:Int)] 86)=W:=⟨_,rfl⟩
            rw [hg9,hW6] at hrun
            have H7:=Lib.hid (And.intro hrun h7)
            clear hrun h7
            go_wp2_with (at_builtin;refine Ux.wpList_app (v1:= .slice ua un uc) (x1:= .slice (some ⟨g9,0,none⟩) 1 1) rfl _ _ _ _ rfl rfl rfl (H7.out.1 _) ?_)
            clear hg9 hW6
            go_wp2_with (fail)
            go_roundg g'
            case measure=>omega
            case rel=>
             have hnx:=HKK.out
             exact ⟨ra,un+1,rc,i+m,rfl,rfl,hnx.2,by have:=HH.out.2.1;omega,Lib.hid (by have:=HU.out;omega),H7.out.2⟩
   ·have i1: ¬(i:Int)<n:=by omega
    have hun:un≤4000:=by have:=HU.out;have:=HLE.out.1;omega
    have HUN:=Lib.hid hun
    clear hlt hig hin hun HU
    have rb:=HI.2.1
    go_wp2_with (refine Ux.is_store 69 rfl ?_;refine Ux.storeN rfl 69 _ _ rfl b2 _ rfl rfl 69 _ rb (by kernel_rfl) rfl (by simp [Value.oneCell']) ?_)
    intro WE rE tE
    clear rb
    go_wp2_with (fail)
    have x0:=cell_of_row WE b2 0 _ _ (0,0) rE
    have x1:=cell_of_row WE b2 1 _ _ (0,0) rE
    have x2:=cell_of_row WE b2 2 _ _ (0,0) rE
    simp at x0 x1 x2
    refine bodyPost_ret (by simp [results,Try.results35,go_sem,x0,x1,x2];try rfl) rfl ?_
    exact lex_ok HI tE HUN.out
end Go.Proofs.Ytmonfaepfbpdpaa
