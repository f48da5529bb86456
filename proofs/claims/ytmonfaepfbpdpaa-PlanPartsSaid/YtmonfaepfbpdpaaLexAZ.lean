/- A part of the proof that the statement holds for every input that it names. No other condition. -/
import Derived.Test.YtmonfaepfbpdpaaUxTabAZ
import Derived.Test.YtmonfaepfbpdpaaPsAZ
set_option linter.unusedVariables false
set_option linter.unusedSimpArgs false
namespace Go.Proofs.Ytmonfaepfbpdpaa
open Go.RowKit
open Ux (i64B KGrow)
theorem infoT:(Try.prog.info? 86).map (fun i=>(i.zero,i.size,i.bytes))=some (some (.agg #[.int .i64 0,.string ⟨#[]⟩,.int .i64 0,.int .i64 0]),4,40):=by kernel_rfl
def TL (xs:List Value) (k:Nat):Prop:= ∀i,i<k→∃kd s m p,i64B kd∧i64B m∧i64B p∧ByteArray.size s≤4000∧xs[i*4]? =some (.int .i64 kd)∧xs[i*4+1]? =some (.string s)∧xs[i*4+2]? =some (.int .i64 m)∧xs[i*4+3]? =some (.int .i64 p)
theorem TL.append {xs ys:List Value} {k m:Nat} (h:TL xs k) (hx:xs.length=k*4) (h2:TL ys m):TL (xs++ys) (k+m):=fun i hi=>by
 by_cases hk:i<k
 ·obtain ⟨kd,s,z,p,b0,b1,b2,b3,h0,h1,h2,h3⟩:=h i hk
  have key: ∀j y,xs[j]? =some y→(xs++ys)[j]? =some y:=fun j y hj=>by
   rw [List.getElem?_append_left (List.getElem?_eq_some_iff.1 hj).1]
   exact hj
  exact ⟨kd,s,z,p,b0,b1,b2,b3,key _ _ h0,key _ _ h1,key _ _ h2,key _ _ h3⟩
 ·obtain ⟨kd,s,z,p,b0,b1,b2,b3,h0,h1,h2,h3⟩:=h2 (i-k) (by omega)
  have key: ∀d y,ys[(i-k)*4+d]? =some y→(xs++ys)[i*4+d]? =some y:=fun d y hj=>by
   rw [List.getElem?_append_right (by omega),hx,show i*4+d-k*4=(i-k)*4+d by omega]
   exact hj
  exact ⟨kd,s,z,p,b0,b1,b2,b3,key 0 _ h0,key 1 _ h1,key 2 _ h2,key 3 _ h3⟩
theorem TL.one {kd m p:Int} {s:ByteArray} (b0:i64B kd) (b1:i64B m) (b2:i64B p) (b3:s.size≤4000):TL [.int .i64 kd,.string s,.int .i64 m,.int .i64 p] 1:=fun i hi=>by
 obtain rfl:i=0:=by omega
 exact ⟨kd,s,m,p,b0,b1,b2,b3,rfl,rfl,rfl,rfl⟩
def TG (w:World) (lo:Nat) (v:Value) (k:Nat):Prop:= ∃xs,KGrow w lo 86 4 v k xs∧TL xs k
theorem TG.nil (w:World) (lo:Nat):TG w lo (.slice none 0 0) 0:=⟨[],KGrow.nil _ _ _ _,fun i hi=>by omega⟩
theorem TG.touch0 {w w':World} {lo:Nat} {v:Value} {k:Nat} (h:TG w lo v k) (T:Ux.Touch (fun _=>False) w w'):TG w' lo v k:=by
 obtain ⟨xs,h1,h2⟩:=h
 exact ⟨xs,h1.touch0 T,h2⟩
theorem TG.app {w:World} {lo:Nat} {v:Value} {k:Nat} (h:TG w lo v k) (kd m p:Int) (s:ByteArray) (b0:i64B kd) (b1:i64B m) (b2:i64B p) (b3:s.size≤4000) (hlo:lo≤w.heap.size) (hk:k≤10000):
 ∃r w',(∀ty,(Builtin.append_ #[67,67] ty #[v,.slice (some ⟨w.heap.size,0,none⟩) 1 1]).run Try.prog (w.alloc (.cells #[.int .i64 kd,.string s,.int .i64 m,.int .i64 p] 86))= .ok r w')∧TG w' lo r (k+1)∧Ux.Touch (fun b=>lo≤b) w w':=by
 have T:Ux.Touch (fun _=>False) w (w.alloc (.cells #[.int .i64 kd,.string s,.int .i64 m,.int .i64 p] 86)):=(Ux.Touch.refl _ _).alloc _
 obtain ⟨xs,h1,h2⟩:=h.touch0 T
 have hs:Src Try.prog 4 67 (.slice (some ⟨w.heap.size,0,none⟩) 1 1) 1 [.int .i64 kd,.string s,.int .i64 m,.int .i64 p] (w.alloc (.cells #[.int .i64 kd,.string s,.int .i64 m,.int .i64 p] 86)):=Ux.src_new Try.underlying67 w 4 1 _ rfl (by simp [Value.oneCell'])
 obtain ⟨r,w',e1,e2,e3,e4⟩:=h1.app' (P:=Try.prog) 67 40 _ Try.underlying67 infoT rfl (by omega) _ 1 _ hs (by rw [World.size_alloc];omega) (by simp only [maxLen];omega) (by omega)
 exact ⟨r,w',e1,⟨xs++_,e2,h2.append h1.len (TL.one b0 b1 b2 b3)⟩,(T.mono fun _ _ f=>f.elim).trans e3 fun b hb e=>e.1⟩
theorem TG.tok {R:Nat→Prop} {w w2:World} {lo q:Nat} {ua:Option Addr} {un uc:Nat} (h:TG w lo (.slice ua un uc) un) (hq:w.heap.size≤q) (T:Ux.Touch R w w2) (hR: ∀b,lo≤b→¬R b):Tok w2 q ua un∧un≤uc:=by
 obtain ⟨xs,h1,h2⟩:=h
 refine ⟨fun i hi=> ?_,h1.cap⟩
 obtain ⟨kd,s,m,p,b0,b1,b2,b3,e0,e1,e2,e3⟩:=h2 i hi
 obtain ⟨a',c',e,hc⟩:=h1.is
 cases e
 obtain ⟨g,rfl,hg,c0⟩:=hc _ _ e0
 have key: ∀j y,xs[j]? =some y→w2.cell? ⟨g,0+j,none⟩=some y:=fun j y hj=>by
  obtain ⟨g',e',_,c⟩:=hc _ _ hj
  cases e'
  rw [Nat.zero_add]
  exact T.cell c (hR g hg)
 have hgl:g<w.heap.size:=Ux.own_lt h1.1 g rfl
 exact ⟨g,0,kd,s,m,p,rfl,by omega,b0,b1,b2,b3,key _ _ e0,key _ _ e1,key _ _ e2,key _ _ e3⟩
end Go.Proofs.Ytmonfaepfbpdpaa
namespace Go.Proofs.Ytmonfaepfbpdpaa
open Go.RowKit
open Ux (i64B)
def digB (x:Int):Bool:=decide (x≥48)&&decide (x≤57)
def letB (x:Int):Bool:=(decide (x≥97)&&decide (x≤122))||((decide (x≥65)&&decide (x≤90))||((x==95)||digB x))
set_option maxHeartbeats 4000000 in
theorem digit_ (x:Int) (w:World):Calls Try.prog 44 #[.int .u8 x] w fun e w'=>e= .returned (.bool (digB x))∧w'=w:=by
 by_cases h1:x≥48
 ·by_cases h2:x≤57
  ·have e:digB x=true:=by unfold digB;simp;omega
   rw [e]
   clear e
   go_enter Try.func44,Try.ntmps44
   go_wp2_with (fail)
   all_goals go_returns
   all_goals first|exact ⟨rfl,rfl⟩|rfl|simp
  ·have e:digB x=false:=by unfold digB;simp;omega
   rw [e]
   clear e
   go_enter Try.func44,Try.ntmps44
   go_wp2_with (fail)
   all_goals go_returns
   all_goals first|exact ⟨rfl,rfl⟩|rfl|simp
 ·by_cases h2:x≤57
  ·have e:digB x=false:=by unfold digB;simp;omega
   rw [e]
   clear e
   go_enter Try.func44,Try.ntmps44
   go_wp2_with (fail)
   all_goals go_returns
   all_goals first|exact ⟨rfl,rfl⟩|rfl|simp
  ·have e:digB x=false:=by unfold digB;simp;omega
   rw [e]
   clear e
   go_enter Try.func44,Try.ntmps44
   go_wp2_with (fail)
   all_goals go_returns
   all_goals first|exact ⟨rfl,rfl⟩|rfl|simp
set_option maxHeartbeats 4000000 in
theorem letter_ (x:Int) (w:World):Calls Try.prog 46 #[.int .u8 x] w fun e w'=>e= .returned (.bool (letB x))∧w'=w:=by
 have HD:=Lib.hid (digit_ x w)
 obtain ⟨z,hz⟩: ∃b,(x==95)=b:=⟨_,rfl⟩
 by_cases h1:x≥97
 ·by_cases h2:x≤122
  ·by_cases h3:x≥65
   ·by_cases h4:x≤90
    ·cases z with
     |true=>
      have e:letB x=true:=by unfold letB;rw [hz];simp;try omega
      rw [e]
      clear e
      go_enter Try.func46,Try.ntmps46
      go_wp2_with (go_at_call 44;fail)
      all_goals first
       |(refine HD.out.mono ?_;rintro e w2 ⟨rfl,rfl⟩;go_wp2_with (fail);all_goals go_returns;all_goals first|exact ⟨rfl,rfl⟩|rfl|simp)
       |(go_returns;first|exact ⟨rfl,rfl⟩|rfl|simp)
     |false=>
      have e:letB x=true:=by unfold letB;rw [hz];simp;try omega
      rw [e]
      clear e
      go_enter Try.func46,Try.ntmps46
      go_wp2_with (go_at_call 44;fail)
      all_goals first
       |(refine HD.out.mono ?_;rintro e w2 ⟨rfl,rfl⟩;go_wp2_with (fail);all_goals go_returns;all_goals first|exact ⟨rfl,rfl⟩|rfl|simp)
       |(go_returns;first|exact ⟨rfl,rfl⟩|rfl|simp)
    ·cases z with
     |true=>
      have e:letB x=true:=by unfold letB;rw [hz];simp;try omega
      rw [e]
      clear e
      go_enter Try.func46,Try.ntmps46
      go_wp2_with (go_at_call 44;fail)
      all_goals first
       |(refine HD.out.mono ?_;rintro e w2 ⟨rfl,rfl⟩;go_wp2_with (fail);all_goals go_returns;all_goals first|exact ⟨rfl,rfl⟩|rfl|simp)
       |(go_returns;first|exact ⟨rfl,rfl⟩|rfl|simp)
     |false=>
      have e:letB x=true:=by unfold letB;rw [hz];simp;try omega
      rw [e]
      clear e
      go_enter Try.func46,Try.ntmps46
      go_wp2_with (go_at_call 44;fail)
      all_goals first
       |(refine HD.out.mono ?_;rintro e w2 ⟨rfl,rfl⟩;go_wp2_with (fail);all_goals go_returns;all_goals first|exact ⟨rfl,rfl⟩|rfl|simp)
       |(go_returns;first|exact ⟨rfl,rfl⟩|rfl|simp)
   ·by_cases h4:x≤90
    ·cases z with
     |true=>
      have e:letB x=true:=by unfold letB;rw [hz];simp;try omega
      rw [e]
      clear e
      go_enter Try.func46,Try.ntmps46
      go_wp2_with (go_at_call 44;fail)
      all_goals first
       |(refine HD.out.mono ?_;rintro e w2 ⟨rfl,rfl⟩;go_wp2_with (fail);all_goals go_returns;all_goals first|exact ⟨rfl,rfl⟩|rfl|simp)
       |(go_returns;first|exact ⟨rfl,rfl⟩|rfl|simp)
     |false=>
      have e:letB x=true:=by unfold letB;rw [hz];simp;try omega
      rw [e]
      clear e
      go_enter Try.func46,Try.ntmps46
      go_wp2_with (go_at_call 44;fail)
      all_goals first
       |(refine HD.out.mono ?_;rintro e w2 ⟨rfl,rfl⟩;go_wp2_with (fail);all_goals go_returns;all_goals first|exact ⟨rfl,rfl⟩|rfl|simp)
       |(go_returns;first|exact ⟨rfl,rfl⟩|rfl|simp)
    ·cases z with
     |true=>
      have e:letB x=true:=by unfold letB;rw [hz];simp;try omega
      rw [e]
      clear e
      go_enter Try.func46,Try.ntmps46
      go_wp2_with (go_at_call 44;fail)
      all_goals first
       |(refine HD.out.mono ?_;rintro e w2 ⟨rfl,rfl⟩;go_wp2_with (fail);all_goals go_returns;all_goals first|exact ⟨rfl,rfl⟩|rfl|simp)
       |(go_returns;first|exact ⟨rfl,rfl⟩|rfl|simp)
     |false=>
      have e:letB x=true:=by unfold letB;rw [hz];simp;try omega
      rw [e]
      clear e
      go_enter Try.func46,Try.ntmps46
      go_wp2_with (go_at_call 44;fail)
      all_goals first
       |(refine HD.out.mono ?_;rintro e w2 ⟨rfl,rfl⟩;go_wp2_with (fail);all_goals go_returns;all_goals first|exact ⟨rfl,rfl⟩|rfl|simp)
       |(go_returns;first|exact ⟨rfl,rfl⟩|rfl|simp)
  ·by_cases h3:x≥65
   ·by_cases h4:x≤90
    ·cases z with
     |true=>
      have e:letB x=true:=by unfold letB;rw [hz];simp;try omega
      rw [e]
      clear e
      go_enter Try.func46,Try.ntmps46
      go_wp2_with (go_at_call 44;fail)
      all_goals first
       |(refine HD.out.mono ?_;rintro e w2 ⟨rfl,rfl⟩;go_wp2_with (fail);all_goals go_returns;all_goals first|exact ⟨rfl,rfl⟩|rfl|simp)
       |(go_returns;first|exact ⟨rfl,rfl⟩|rfl|simp)
     |false=>
      have e:letB x=true:=by unfold letB;rw [hz];simp;try omega
      rw [e]
      clear e
      go_enter Try.func46,Try.ntmps46
      go_wp2_with (go_at_call 44;fail)
      all_goals first
       |(refine HD.out.mono ?_;rintro e w2 ⟨rfl,rfl⟩;go_wp2_with (fail);all_goals go_returns;all_goals first|exact ⟨rfl,rfl⟩|rfl|simp)
       |(go_returns;first|exact ⟨rfl,rfl⟩|rfl|simp)
    ·cases z with
     |true=>
      have e:letB x=true:=by unfold letB;rw [hz];simp;try omega
      rw [e]
      clear e
      go_enter Try.func46,Try.ntmps46
      go_wp2_with (go_at_call 44;fail)
      all_goals first
       |(refine HD.out.mono ?_;rintro e w2 ⟨rfl,rfl⟩;go_wp2_with (fail);all_goals go_returns;all_goals first|exact ⟨rfl,rfl⟩|rfl|simp)
       |(go_returns;first|exact ⟨rfl,rfl⟩|rfl|simp)
     |false=>
      have e1:(decide (x≥97)&&decide (x≤122))=false:=by simp;omega
      have e2:(decide (x≥65)&&decide (x≤90))=false:=by simp;omega
      have e:letB x=digB x:=by unfold letB;rw [hz,e1,e2];rfl
      clear e1 e2
      rw [e]
      clear e
      go_enter Try.func46,Try.ntmps46
      go_wp2_with (go_at_call 44;fail)
      all_goals first
       |(refine HD.out.mono ?_;rintro e w2 ⟨rfl,rfl⟩;go_wp2_with (fail);all_goals go_returns;all_goals first|exact ⟨rfl,rfl⟩|rfl|simp)
       |(go_returns;first|exact ⟨rfl,rfl⟩|rfl|simp)
   ·by_cases h4:x≤90
    ·cases z with
     |true=>
      have e:letB x=true:=by unfold letB;rw [hz];simp;try omega
      rw [e]
      clear e
      go_enter Try.func46,Try.ntmps46
      go_wp2_with (go_at_call 44;fail)
      all_goals first
       |(refine HD.out.mono ?_;rintro e w2 ⟨rfl,rfl⟩;go_wp2_with (fail);all_goals go_returns;all_goals first|exact ⟨rfl,rfl⟩|rfl|simp)
       |(go_returns;first|exact ⟨rfl,rfl⟩|rfl|simp)
     |false=>
      have e1:(decide (x≥97)&&decide (x≤122))=false:=by simp;omega
      have e2:(decide (x≥65)&&decide (x≤90))=false:=by simp;omega
      have e:letB x=digB x:=by unfold letB;rw [hz,e1,e2];rfl
      clear e1 e2
      rw [e]
      clear e
      go_enter Try.func46,Try.ntmps46
      go_wp2_with (go_at_call 44;fail)
      all_goals first
       |(refine HD.out.mono ?_;rintro e w2 ⟨rfl,rfl⟩;go_wp2_with (fail);all_goals go_returns;all_goals first|exact ⟨rfl,rfl⟩|rfl|simp)
       |(go_returns;first|exact ⟨rfl,rfl⟩|rfl|simp)
    ·cases z with
     |true=>
      have e:letB x=true:=by unfold letB;rw [hz];simp;try omega
      rw [e]
      clear e
      go_enter Try.func46,Try.ntmps46
      go_wp2_with (go_at_call 44;fail)
      all_goals first
       |(refine HD.out.mono ?_;rintro e w2 ⟨rfl,rfl⟩;go_wp2_with (fail);all_goals go_returns;all_goals first|exact ⟨rfl,rfl⟩|rfl|simp)
       |(go_returns;first|exact ⟨rfl,rfl⟩|rfl|simp)
     |false=>
      have e1:(decide (x≥97)&&decide (x≤122))=false:=by simp;omega
      have e2:(decide (x≥65)&&decide (x≤90))=false:=by simp;omega
      have e:letB x=digB x:=by unfold letB;rw [hz,e1,e2];rfl
      clear e1 e2
      rw [e]
      clear e
      go_enter Try.func46,Try.ntmps46
      go_wp2_with (go_at_call 44;fail)
      all_goals first
       |(refine HD.out.mono ?_;rintro e w2 ⟨rfl,rfl⟩;go_wp2_with (fail);all_goals go_returns;all_goals first|exact ⟨rfl,rfl⟩|rfl|simp)
       |(go_returns;first|exact ⟨rfl,rfl⟩|rfl|simp)
 ·by_cases h2:x≤122
  ·by_cases h3:x≥65
   ·by_cases h4:x≤90
    ·cases z with
     |true=>
      have e:letB x=true:=by unfold letB;rw [hz];simp;try omega
      rw [e]
      clear e
      go_enter Try.func46,Try.ntmps46
      go_wp2_with (go_at_call 44;fail)
      all_goals first
       |(refine HD.out.mono ?_;rintro e w2 ⟨rfl,rfl⟩;go_wp2_with (fail);all_goals go_returns;all_goals first|exact ⟨rfl,rfl⟩|rfl|simp)
       |(go_returns;first|exact ⟨rfl,rfl⟩|rfl|simp)
     |false=>
      have e:letB x=true:=by unfold letB;rw [hz];simp;try omega
      rw [e]
      clear e
      go_enter Try.func46,Try.ntmps46
      go_wp2_with (go_at_call 44;fail)
      all_goals first
       |(refine HD.out.mono ?_;rintro e w2 ⟨rfl,rfl⟩;go_wp2_with (fail);all_goals go_returns;all_goals first|exact ⟨rfl,rfl⟩|rfl|simp)
       |(go_returns;first|exact ⟨rfl,rfl⟩|rfl|simp)
    ·cases z with
     |true=>
      have e:letB x=true:=by unfold letB;rw [hz];simp;try omega
      rw [e]
      clear e
      go_enter Try.func46,Try.ntmps46
      go_wp2_with (go_at_call 44;fail)
      all_goals first
       |(refine HD.out.mono ?_;rintro e w2 ⟨rfl,rfl⟩;go_wp2_with (fail);all_goals go_returns;all_goals first|exact ⟨rfl,rfl⟩|rfl|simp)
       |(go_returns;first|exact ⟨rfl,rfl⟩|rfl|simp)
     |false=>
      have e1:(decide (x≥97)&&decide (x≤122))=false:=by simp;omega
      have e2:(decide (x≥65)&&decide (x≤90))=false:=by simp;omega
      have e:letB x=digB x:=by unfold letB;rw [hz,e1,e2];rfl
      clear e1 e2
      rw [e]
      clear e
      go_enter Try.func46,Try.ntmps46
      go_wp2_with (go_at_call 44;fail)
      all_goals first
       |(refine HD.out.mono ?_;rintro e w2 ⟨rfl,rfl⟩;go_wp2_with (fail);all_goals go_returns;all_goals first|exact ⟨rfl,rfl⟩|rfl|simp)
       |(go_returns;first|exact ⟨rfl,rfl⟩|rfl|simp)
   ·by_cases h4:x≤90
    ·cases z with
     |true=>
      have e:letB x=true:=by unfold letB;rw [hz];simp;try omega
      rw [e]
      clear e
      go_enter Try.func46,Try.ntmps46
      go_wp2_with (go_at_call 44;fail)
      all_goals first
       |(refine HD.out.mono ?_;rintro e w2 ⟨rfl,rfl⟩;go_wp2_with (fail);all_goals go_returns;all_goals first|exact ⟨rfl,rfl⟩|rfl|simp)
       |(go_returns;first|exact ⟨rfl,rfl⟩|rfl|simp)
     |false=>
      have e1:(decide (x≥97)&&decide (x≤122))=false:=by simp;omega
      have e2:(decide (x≥65)&&decide (x≤90))=false:=by simp;omega
      have e:letB x=digB x:=by unfold letB;rw [hz,e1,e2];rfl
      clear e1 e2
      rw [e]
      clear e
      go_enter Try.func46,Try.ntmps46
      go_wp2_with (go_at_call 44;fail)
      all_goals first
       |(refine HD.out.mono ?_;rintro e w2 ⟨rfl,rfl⟩;go_wp2_with (fail);all_goals go_returns;all_goals first|exact ⟨rfl,rfl⟩|rfl|simp)
       |(go_returns;first|exact ⟨rfl,rfl⟩|rfl|simp)
    ·cases z with
     |true=>
      have e:letB x=true:=by unfold letB;rw [hz];simp;try omega
      rw [e]
      clear e
      go_enter Try.func46,Try.ntmps46
      go_wp2_with (go_at_call 44;fail)
      all_goals first
       |(refine HD.out.mono ?_;rintro e w2 ⟨rfl,rfl⟩;go_wp2_with (fail);all_goals go_returns;all_goals first|exact ⟨rfl,rfl⟩|rfl|simp)
       |(go_returns;first|exact ⟨rfl,rfl⟩|rfl|simp)
     |false=>
      have e1:(decide (x≥97)&&decide (x≤122))=false:=by simp;omega
      have e2:(decide (x≥65)&&decide (x≤90))=false:=by simp;omega
      have e:letB x=digB x:=by unfold letB;rw [hz,e1,e2];rfl
      clear e1 e2
      rw [e]
      clear e
      go_enter Try.func46,Try.ntmps46
      go_wp2_with (go_at_call 44;fail)
      all_goals first
       |(refine HD.out.mono ?_;rintro e w2 ⟨rfl,rfl⟩;go_wp2_with (fail);all_goals go_returns;all_goals first|exact ⟨rfl,rfl⟩|rfl|simp)
       |(go_returns;first|exact ⟨rfl,rfl⟩|rfl|simp)
  ·by_cases h3:x≥65
   ·by_cases h4:x≤90
    ·cases z with
     |true=>
      have e:letB x=true:=by unfold letB;rw [hz];simp;try omega
      rw [e]
      clear e
      go_enter Try.func46,Try.ntmps46
      go_wp2_with (go_at_call 44;fail)
      all_goals first
       |(refine HD.out.mono ?_;rintro e w2 ⟨rfl,rfl⟩;go_wp2_with (fail);all_goals go_returns;all_goals first|exact ⟨rfl,rfl⟩|rfl|simp)
       |(go_returns;first|exact ⟨rfl,rfl⟩|rfl|simp)
     |false=>
      have e:letB x=true:=by unfold letB;rw [hz];simp;try omega
      rw [e]
      clear e
      go_enter Try.func46,Try.ntmps46
      go_wp2_with (go_at_call 44;fail)
      all_goals first
       |(refine HD.out.mono ?_;rintro e w2 ⟨rfl,rfl⟩;go_wp2_with (fail);all_goals go_returns;all_goals first|exact ⟨rfl,rfl⟩|rfl|simp)
       |(go_returns;first|exact ⟨rfl,rfl⟩|rfl|simp)
    ·cases z with
     |true=>
      have e:letB x=true:=by unfold letB;rw [hz];simp;try omega
      rw [e]
      clear e
      go_enter Try.func46,Try.ntmps46
      go_wp2_with (go_at_call 44;fail)
      all_goals first
       |(refine HD.out.mono ?_;rintro e w2 ⟨rfl,rfl⟩;go_wp2_with (fail);all_goals go_returns;all_goals first|exact ⟨rfl,rfl⟩|rfl|simp)
       |(go_returns;first|exact ⟨rfl,rfl⟩|rfl|simp)
     |false=>
      have e1:(decide (x≥97)&&decide (x≤122))=false:=by simp;omega
      have e2:(decide (x≥65)&&decide (x≤90))=false:=by simp;omega
      have e:letB x=digB x:=by unfold letB;rw [hz,e1,e2];rfl
      clear e1 e2
      rw [e]
      clear e
      go_enter Try.func46,Try.ntmps46
      go_wp2_with (go_at_call 44;fail)
      all_goals first
       |(refine HD.out.mono ?_;rintro e w2 ⟨rfl,rfl⟩;go_wp2_with (fail);all_goals go_returns;all_goals first|exact ⟨rfl,rfl⟩|rfl|simp)
       |(go_returns;first|exact ⟨rfl,rfl⟩|rfl|simp)
   ·by_cases h4:x≤90
    ·cases z with
     |true=>
      have e:letB x=true:=by unfold letB;rw [hz];simp;try omega
      rw [e]
      clear e
      go_enter Try.func46,Try.ntmps46
      go_wp2_with (go_at_call 44;fail)
      all_goals first
       |(refine HD.out.mono ?_;rintro e w2 ⟨rfl,rfl⟩;go_wp2_with (fail);all_goals go_returns;all_goals first|exact ⟨rfl,rfl⟩|rfl|simp)
       |(go_returns;first|exact ⟨rfl,rfl⟩|rfl|simp)
     |false=>
      have e1:(decide (x≥97)&&decide (x≤122))=false:=by simp;omega
      have e2:(decide (x≥65)&&decide (x≤90))=false:=by simp;omega
      have e:letB x=digB x:=by unfold letB;rw [hz,e1,e2];rfl
      clear e1 e2
      rw [e]
      clear e
      go_enter Try.func46,Try.ntmps46
      go_wp2_with (go_at_call 44;fail)
      all_goals first
       |(refine HD.out.mono ?_;rintro e w2 ⟨rfl,rfl⟩;go_wp2_with (fail);all_goals go_returns;all_goals first|exact ⟨rfl,rfl⟩|rfl|simp)
       |(go_returns;first|exact ⟨rfl,rfl⟩|rfl|simp)
    ·cases z with
     |true=>
      have e:letB x=true:=by unfold letB;rw [hz];simp;try omega
      rw [e]
      clear e
      go_enter Try.func46,Try.ntmps46
      go_wp2_with (go_at_call 44;fail)
      all_goals first
       |(refine HD.out.mono ?_;rintro e w2 ⟨rfl,rfl⟩;go_wp2_with (fail);all_goals go_returns;all_goals first|exact ⟨rfl,rfl⟩|rfl|simp)
       |(go_returns;first|exact ⟨rfl,rfl⟩|rfl|simp)
     |false=>
      have e1:(decide (x≥97)&&decide (x≤122))=false:=by simp;omega
      have e2:(decide (x≥65)&&decide (x≤90))=false:=by simp;omega
      have e:letB x=digB x:=by unfold letB;rw [hz,e1,e2];rfl
      clear e1 e2
      rw [e]
      clear e
      go_enter Try.func46,Try.ntmps46
      go_wp2_with (go_at_call 44;fail)
      all_goals first
       |(refine HD.out.mono ?_;rintro e w2 ⟨rfl,rfl⟩;go_wp2_with (fail);all_goals go_returns;all_goals first|exact ⟨rfl,rfl⟩|rfl|simp)
       |(go_returns;first|exact ⟨rfl,rfl⟩|rfl|simp)
end Go.Proofs.Ytmonfaepfbpdpaa
namespace Go.Proofs.Ytmonfaepfbpdpaa
open Go.RowKit
open Ux (i64B)
set_option maxHeartbeats 4000000 in
set_option maxRecDepth 100000 in
theorem words_ (w:World):Calls Try.prog 59 #[] w fun e w'=> ∃g,e= .returned (.slice (some ⟨g,0,none⟩) 48 48)∧(w.heap.size≤g∧∀i,i<48→∃s,w'.cell? ⟨g,i,none⟩=some (.string s))∧Ux.Touch (fun _=>False) w w':=by
 go_enter Try.func59,Try.ntmps59
 go_wp2_with (fail)
 go_returns
 refine ⟨_,rfl,⟨Nat.le_refl _,fun i hi=> ?_⟩,(Ux.Touch.refl _ _).alloc _⟩
 rw [cell_of_row _ _ i _ _ (0,0) (heap_alloc_new w _)]
 have:i=0∨i=1∨i=2∨i=3∨i=4∨i=5∨i=6∨i=7∨i=8∨i=9∨i=10∨i=11∨i=12∨i=13∨i=14∨i=15∨i=16∨i=17∨i=18∨i=19∨i=20∨i=21∨i=22∨i=23∨i=24∨i=25∨i=26∨i=27∨i=28∨i=29∨i=30∨i=31∨i=32∨i=33∨i=34∨i=35∨i=36∨i=37∨i=38∨i=39∨i=40∨i=41∨i=42∨i=43∨i=44∨i=45∨i=46∨i=47:=by omega
 rcases this with rfl|rfl|rfl|rfl|rfl|rfl|rfl|rfl|rfl|rfl|rfl|rfl|rfl|rfl|rfl|rfl|rfl|rfl|rfl|rfl|rfl|rfl|rfl|rfl|rfl|rfl|rfl|rfl|rfl|rfl|rfl|rfl|rfl|rfl|rfl|rfl|rfl|rfl|rfl|rfl|rfl|rfl|rfl|rfl|rfl|rfl|rfl|rfl<;>exact ⟨_,rfl⟩
set_option maxHeartbeats 4000000 in
theorem isWord_ (s:ByteArray) (w:World):Calls Try.prog 48 #[.string s] w fun e w'=> ∃b,e= .returned (.bool b)∧Ux.Touch (fun _=>False) w w':=by
 go_enter Try.func48,Try.ntmps48
 go_wp2_with (go_at_call 59;fail)
 refine (words_ w).mono ?_
 rintro e w1 ⟨g,rfl,⟨_,hc⟩,T1⟩
 have HC:=Lib.hid (And.intro hc T1)
 clear hc T1
 go_wp2_with (fail)
 go_loopg [4] 48 (fun gk s4 wr=> ∃i:Nat,s4= .int .i64 i∧i+gk=48∧wr=w1)
 case atStart=>exact ⟨0,rfl,rfl,rfl⟩
 case round=>
  obtain ⟨i,rfl,hig,rfl⟩:=hrel
  have i0:(0:Int)≤i:=by omega
  by_cases hlt:i<48
  ·obtain ⟨g',rfl⟩: ∃g',gk=g'+1:=⟨gk-1,by omega⟩
   have i1:(i:Int)<48:=by omega
   obtain ⟨u,hu⟩:=HC.out.1 i hlt
   obtain ⟨z,hz⟩: ∃b,(u.toList==s.toList)=b:=⟨_,rfl⟩
   clear hlt
   cases z with
   |true=>
    go_wp2_with (fail)
    all_goals go_returns
    all_goals first|exact ⟨_,rfl,HC.out.2⟩|exact HC.out.2|exact ⟨.inl rfl,HC.out.2⟩|exact ⟨.inr rfl,HC.out.2⟩
   |false=>
    go_wp2_with (fail)
    go_roundg g'
    case measure=>omega
    case rel=>exact ⟨i+1,by congr 1,by omega,rfl⟩
  ·have i1: ¬(i:Int)<48:=by omega
   clear hlt
   go_wp2_with (fail)
   all_goals go_returns
   all_goals first|exact ⟨_,rfl,HC.out.2⟩|exact HC.out.2|exact ⟨.inl rfl,HC.out.2⟩|exact ⟨.inr rfl,HC.out.2⟩
end Go.Proofs.Ytmonfaepfbpdpaa
namespace Go.Proofs.Ytmonfaepfbpdpaa
open Go.RowKit
open Ux (i64B)
set_option maxHeartbeats 8000000 in
set_option maxRecDepth 100000 in
theorem op_ (s:ByteArray) (hs:0<s.size) (w:World):Calls Try.prog 51 #[.string s] w fun e w'=>(∃t,e= .returned (.string t)∧t.size≤s.size∧t.size≤2)∧w'=w:=by
 have e2:2≤s.size→(s.extract 0 2).size≤s.size∧(s.extract 0 2).size≤2:=fun h=>by rw [ByteArray.size_extract];omega
 have e1:(s.extract 0 1).size≤s.size∧(s.extract 0 1).size≤2:=by rw [ByteArray.size_extract];omega
 have HE:=Lib.hid (And.intro e2 e1)
 clear e2 e1
 by_cases h2:2≤s.size
 ·have i2:(s.size:Int)≥2:=by omega
  have HE2:=Lib.hid (HE.out.1 h2)
  go_enter Try.func51,Try.ntmps51
  go_upto_if 8 with (fail)
  go_cut [8] (fun s8 wx=> ∃z,s8= .bool z∧w=wx)
  case first=>
   go_wp2_with (fail)
   all_goals go_meet
   all_goals exact ⟨_,rfl,rfl⟩
  obtain ⟨z,rfl,rfl⟩:=hcut
  cases z with
  |true=>
   go_wp2_with (fail)
   go_returns
   first|exact ⟨⟨_,rfl,HE2.out⟩,rfl⟩|exact HE2.out
  |false=>
   go_upto_if 19 with (fail)
   go_cut [19] (fun s19 wx=> ∃z,s19= .bool z∧w=wx)
   case first=>
    go_wp2_with (fail)
    all_goals go_meet
    all_goals exact ⟨_,rfl,rfl⟩
   obtain ⟨z,rfl,rfl⟩:=hcut
   cases z with
   |true=>
    go_wp2_with (fail)
    go_returns
    first|exact ⟨⟨_,rfl,HE.out.2⟩,rfl⟩|exact HE.out.2
   |false=>
    go_wp2_with (fail)
    go_returns
    first|exact ⟨⟨_,rfl,Nat.zero_le _,Nat.zero_le _⟩,rfl⟩|simp
 ·have i2: ¬(s.size:Int)≥2:=by omega
  go_enter Try.func51,Try.ntmps51
  go_upto_if 19 with (fail)
  go_cut [19] (fun s19 wx=> ∃z,s19= .bool z∧w=wx)
  case first=>
   go_wp2_with (fail)
   all_goals go_meet
   all_goals exact ⟨_,rfl,rfl⟩
  obtain ⟨z,rfl,rfl⟩:=hcut
  cases z with
  |true=>
   go_wp2_with (fail)
   go_returns
   first|exact ⟨⟨_,rfl,HE.out.2⟩,rfl⟩|exact HE.out.2
  |false=>
   go_wp2_with (fail)
   go_returns
   first|exact ⟨⟨_,rfl,Nat.zero_le _,Nat.zero_le _⟩,rfl⟩|simp
end Go.Proofs.Ytmonfaepfbpdpaa
namespace Go.Proofs.Ytmonfaepfbpdpaa
open Go.RowKit
set_option maxHeartbeats 4000000 in
set_option maxRecDepth 100000 in
theorem upper_ (s:ByteArray) (w:World) (hs:s.size≤9223372036854775807):Calls Try.prog 47 #[.string s] w fun e w'=> ∃t,e= .returned (.string t)∧t.size=s.size∧Ux.Touch (fun _=>False) w w':=by
 have hrun:=run_bytes_of_string (P:=Try.prog) w 9 102 5 s Try.underlying9 Try.underlying102 Try.underlying5
 obtain ⟨n,hn⟩: ∃n,s.size=n:=⟨_,rfl⟩
 obtain ⟨l,hl⟩: ∃l,s.data.toList=l:=⟨_,rfl⟩
 have hll:l.length=n:=by rw [←hl,←hn];simp
 obtain ⟨cap,hcap⟩: ∃cap,grownCap w s.size 0 5=cap:=⟨_,rfl⟩
 have hcge:n≤cap:=by rw [←hcap,←hn];exact grownCap_ge w s.size 0 5
 rw [hcap] at hrun
 obtain ⟨W,hW⟩: ∃W,w.drew.alloc (.cells (bytesRow s cap) 5 ((bytesRow s cap).size,(bytesRow s cap).size+1))=W:=⟨_,rfl⟩
 have hbs:n≤(bytesRow s cap).size:=by
  unfold bytesRow
  rw [Array.size_append,Array.size_map]
  have:s.data.size=s.size:=rfl
  omega
 have hcell: ∀(j:Nat) (x:UInt8),l[j]? =some x→W.cell? ⟨w.heap.size,j,none⟩=some (.int .u8 (x.toNat:Int)):=fun j x hx=>by
  rw [←hl] at hx
  obtain ⟨hj,e⟩:=List.getElem?_eq_some_iff.1 hx
  have hj':j<s.data.size:=by simpa using hj
  have:=World.cell?_alloc_mark w.drew (bytesRow s cap) 5 ((bytesRow s cap).size,(bytesRow s cap).size+1) j
  rw [hW] at this
  rw [show w.drew.heap.size=w.heap.size from rfl] at this
  rw [this,bytesRow_at s cap j hj']
  rw [←e]
  simp
 have hfr: ∀j,j<n→W.frozen? ⟨w.heap.size,j,none⟩=false:=fun j hj=>by
  have:=World.frozen?_alloc_mark w.drew (bytesRow s cap) 5 (bytesRow s cap).size ((bytesRow s cap).size+1) j
  rw [hW] at this
  rw [show w.drew.heap.size=w.heap.size from rfl] at this
  rw [this]
  simp
  omega
 have hT:Ux.Touch (fun _=>False) w W:=by rw [←hW];exact ((Ux.Touch.refl _ w).drew).alloc _
 rw [hW,hn] at hrun
 obtain ⟨g,hg⟩: ∃g,w.heap.size=g:=⟨_,rfl⟩
 rw [hg] at hrun hcell hfr
 have j0:(n:Int)≤9223372036854775807:=by omega
 have HH:=Lib.hid (And.intro hcell (And.intro hfr (And.intro hT (And.intro hll (And.intro hcge hg)))))
 rw [hn]
 clear hcell hfr hT hll hcge hW hbs hcap hg hs
 go_enter Try.func47,Try.ntmps47
 go_wp2
 go_loopg [4] n (fun g' s4 wr=> ∃i:Nat,s4= .int .i64 i∧i+g'=n∧Hid (∃l:List UInt8,l.length=n∧(∀(j:Nat) (x:UInt8),l[j]? =some x→wr.cell? ⟨g,j,none⟩=some (.int .u8 (x.toNat:Int)))∧(∀j,j<n→wr.frozen? ⟨g,j,none⟩=false)∧Ux.Touch (fun _=>False) w wr))
 case atStart=>exact ⟨0,rfl,by omega,Lib.hid ⟨l,HH.out.2.2.2.1,HH.out.1,HH.out.2.1,HH.out.2.2.1⟩⟩
 case round=>
  obtain ⟨i,rfl,hig,HI⟩:=hrel
  have p0:(0:Int)≤i:=by omega
  obtain ⟨l',hl',HC,HF,HT⟩:=HI.out
  have HL:=Lib.hid (And.intro hl' (And.intro HC (And.intro HF HT)))
  clear HC HF HT HI
  by_cases hlt:i<n
  ·obtain ⟨g',rfl⟩: ∃g',gk=g'+1:=⟨gk-1,by omega⟩
   have j1:(i:Int)<n:=by omega
   obtain ⟨x,hx⟩: ∃x,l'[i]? =some x:=⟨l'[i]'(by omega),List.getElem?_eq_getElem (by omega)⟩
   have c1:=HL.out.2.1 i x hx
   have f1:=HL.out.2.2.1 i hlt
   have hx1:(x.toNat:Int)≤255:=by have:=x.toNat_lt;omega
   have hx0:(0:Int)≤x.toNat:=by omega
   have HX:=Lib.hid hx
   clear hx hl'
   by_cases q1:(x.toNat:Int)≥97
   ·by_cases q2:(x.toNat:Int)≤122
    ·go_wp2
     go_roundg g'
     case measure=>omega
     case rel=>
      refine ⟨i+1,rfl,by omega,Lib.hid ⟨l'.set i (UInt8.ofNat (x.toNat-32)),by rw [List.length_set];exact HL.out.1,fun j y hy=> ?_,fun j hj=>by simpa using HL.out.2.2.1 j hj,HL.out.2.2.2.setCell (fun h=>by have:=HH.out.2.2.2.2.2;simp only at h;omega) _⟩⟩
      rw [List.getElem?_set] at hy
      by_cases e:i=j
      ·subst e
       rw [if_pos rfl] at hy
       split at hy
       ·cases hy
        rw [World.cell?_setCell_same _ _ _ c1,UInt8.toNat_ofNat']
        congr 2
        omega
       ·cases hy
      ·rw [if_neg e] at hy
       rw [World.cell?_setCell_other _ _ _ _ (fun h=>e (congrArg Addr.off h))]
       exact HL.out.2.1 j y hy
    ·go_wp2
     go_roundg g'
     case measure=>omega
     case rel=>exact ⟨i+1,rfl,by omega,Lib.hid ⟨l',HL.out⟩⟩
   ·go_wp2
    go_roundg g'
    case measure=>omega
    case rel=>exact ⟨i+1,rfl,by omega,Lib.hid ⟨l',HL.out⟩⟩
  ·obtain rfl:i=n:=by omega
   have q1: ¬(i:Int)<i:=by omega
   have hcb:=run_convert_bytes_back (P:=Try.prog) wr 102 9 5 ⟨g,0,none⟩ cap l' Try.underlying102 Try.underlying5 Try.underlying9 (fun j hj=>by
    have e:(⟨g,0,none⟩:Addr).add j=⟨g,j,none⟩:=by unfold Addr.add;split<;>simp_all
    rw [e]
    exact HL.out.2.1 j _ (List.getElem?_eq_getElem hj))
   rw [hl'] at hcb
   have HT:=Lib.hid HL.out.2.2.2
   have HZ:Hid ((⟨l'.toArray⟩:ByteArray).size=i):=Lib.hid (by show l'.toArray.size=i;simpa using hl')
   generalize (⟨l'.toArray⟩:ByteArray)=Z at hcb HZ
   clear hlt hl' HL
   go_wp2
   go_returns
   exact ⟨_,rfl,HZ.out,HT.out⟩
set_option maxHeartbeats 4000000 in
set_option maxRecDepth 100000 in
theorem lower_ (s:ByteArray) (w:World) (hs:s.size≤9223372036854775807):Calls Try.prog 49 #[.string s] w fun e w'=> ∃t,e= .returned (.string t)∧t.size=s.size∧Ux.Touch (fun _=>False) w w':=by
 have hrun:=run_bytes_of_string (P:=Try.prog) w 9 102 5 s Try.underlying9 Try.underlying102 Try.underlying5
 obtain ⟨n,hn⟩: ∃n,s.size=n:=⟨_,rfl⟩
 obtain ⟨l,hl⟩: ∃l,s.data.toList=l:=⟨_,rfl⟩
 have hll:l.length=n:=by rw [←hl,←hn];simp
 obtain ⟨cap,hcap⟩: ∃cap,grownCap w s.size 0 5=cap:=⟨_,rfl⟩
 have hcge:n≤cap:=by rw [←hcap,←hn];exact grownCap_ge w s.size 0 5
 rw [hcap] at hrun
 obtain ⟨W,hW⟩: ∃W,w.drew.alloc (.cells (bytesRow s cap) 5 ((bytesRow s cap).size,(bytesRow s cap).size+1))=W:=⟨_,rfl⟩
 have hbs:n≤(bytesRow s cap).size:=by
  unfold bytesRow
  rw [Array.size_append,Array.size_map]
  have:s.data.size=s.size:=rfl
  omega
 have hcell: ∀(j:Nat) (x:UInt8),l[j]? =some x→W.cell? ⟨w.heap.size,j,none⟩=some (.int .u8 (x.toNat:Int)):=fun j x hx=>by
  rw [←hl] at hx
  obtain ⟨hj,e⟩:=List.getElem?_eq_some_iff.1 hx
  have hj':j<s.data.size:=by simpa using hj
  have:=World.cell?_alloc_mark w.drew (bytesRow s cap) 5 ((bytesRow s cap).size,(bytesRow s cap).size+1) j
  rw [hW] at this
  rw [show w.drew.heap.size=w.heap.size from rfl] at this
  rw [this,bytesRow_at s cap j hj']
  rw [←e]
  simp
 have hfr: ∀j,j<n→W.frozen? ⟨w.heap.size,j,none⟩=false:=fun j hj=>by
  have:=World.frozen?_alloc_mark w.drew (bytesRow s cap) 5 (bytesRow s cap).size ((bytesRow s cap).size+1) j
  rw [hW] at this
  rw [show w.drew.heap.size=w.heap.size from rfl] at this
  rw [this]
  simp
  omega
 have hT:Ux.Touch (fun _=>False) w W:=by rw [←hW];exact ((Ux.Touch.refl _ w).drew).alloc _
 rw [hW,hn] at hrun
 obtain ⟨g,hg⟩: ∃g,w.heap.size=g:=⟨_,rfl⟩
 rw [hg] at hrun hcell hfr
 have j0:(n:Int)≤9223372036854775807:=by omega
 have HH:=Lib.hid (And.intro hcell (And.intro hfr (And.intro hT (And.intro hll (And.intro hcge hg)))))
 rw [hn]
 clear hcell hfr hT hll hcge hW hbs hcap hg hs
 go_enter Try.func49,Try.ntmps49
 go_wp2
 go_loopg [4] n (fun g' s4 wr=> ∃i:Nat,s4= .int .i64 i∧i+g'=n∧Hid (∃l:List UInt8,l.length=n∧(∀(j:Nat) (x:UInt8),l[j]? =some x→wr.cell? ⟨g,j,none⟩=some (.int .u8 (x.toNat:Int)))∧(∀j,j<n→wr.frozen? ⟨g,j,none⟩=false)∧Ux.Touch (fun _=>False) w wr))
 case atStart=>exact ⟨0,rfl,by omega,Lib.hid ⟨l,HH.out.2.2.2.1,HH.out.1,HH.out.2.1,HH.out.2.2.1⟩⟩
 case round=>
  obtain ⟨i,rfl,hig,HI⟩:=hrel
  have p0:(0:Int)≤i:=by omega
  obtain ⟨l',hl',HC,HF,HT⟩:=HI.out
  have HL:=Lib.hid (And.intro hl' (And.intro HC (And.intro HF HT)))
  clear HC HF HT HI
  by_cases hlt:i<n
  ·obtain ⟨g',rfl⟩: ∃g',gk=g'+1:=⟨gk-1,by omega⟩
   have j1:(i:Int)<n:=by omega
   obtain ⟨x,hx⟩: ∃x,l'[i]? =some x:=⟨l'[i]'(by omega),List.getElem?_eq_getElem (by omega)⟩
   have c1:=HL.out.2.1 i x hx
   have f1:=HL.out.2.2.1 i hlt
   have hx1:(x.toNat:Int)≤255:=by have:=x.toNat_lt;omega
   have hx0:(0:Int)≤x.toNat:=by omega
   have HX:=Lib.hid hx
   clear hx hl'
   by_cases q1:(x.toNat:Int)≥65
   ·by_cases q2:(x.toNat:Int)≤90
    ·go_wp2
     go_roundg g'
     case measure=>omega
     case rel=>
      refine ⟨i+1,rfl,by omega,Lib.hid ⟨l'.set i (UInt8.ofNat (x.toNat+32)),by rw [List.length_set];exact HL.out.1,fun j y hy=> ?_,fun j hj=>by simpa using HL.out.2.2.1 j hj,HL.out.2.2.2.setCell (fun h=>by have:=HH.out.2.2.2.2.2;simp only at h;omega) _⟩⟩
      rw [List.getElem?_set] at hy
      by_cases e:i=j
      ·subst e
       rw [if_pos rfl] at hy
       split at hy
       ·cases hy
        rw [World.cell?_setCell_same _ _ _ c1,UInt8.toNat_ofNat']
        congr 2
        omega
       ·cases hy
      ·rw [if_neg e] at hy
       rw [World.cell?_setCell_other _ _ _ _ (fun h=>e (congrArg Addr.off h))]
       exact HL.out.2.1 j y hy
    ·go_wp2
     go_roundg g'
     case measure=>omega
     case rel=>exact ⟨i+1,rfl,by omega,Lib.hid ⟨l',HL.out⟩⟩
   ·go_wp2
    go_roundg g'
    case measure=>omega
    case rel=>exact ⟨i+1,rfl,by omega,Lib.hid ⟨l',HL.out⟩⟩
  ·obtain rfl:i=n:=by omega
   have q1: ¬(i:Int)<i:=by omega
   have hcb:=run_convert_bytes_back (P:=Try.prog) wr 102 9 5 ⟨g,0,none⟩ cap l' Try.underlying102 Try.underlying5 Try.underlying9 (fun j hj=>by
    have e:(⟨g,0,none⟩:Addr).add j=⟨g,j,none⟩:=by unfold Addr.add;split<;>simp_all
    rw [e]
    exact HL.out.2.1 j _ (List.getElem?_eq_getElem hj))
   rw [hl'] at hcb
   have HT:=Lib.hid HL.out.2.2.2
   have HZ:Hid ((⟨l'.toArray⟩:ByteArray).size=i):=Lib.hid (by show l'.toArray.size=i;simpa using hl')
   generalize (⟨l'.toArray⟩:ByteArray)=Z at hcb HZ
   clear hlt hl' HL
   go_wp2
   go_returns
   exact ⟨_,rfl,HZ.out,HT.out⟩
end Go.Proofs.Ytmonfaepfbpdpaa
namespace Go.Proofs.Ytmonfaepfbpdpaa
open Go.RowKit
def TextR (n a:Nat) (e:Ending):Prop:= ∃t z b,e= .returned (.tuple #[.string t,.int .i64 z,.bool b])∧t.size≤n∧(b=true→∃m:Nat,z=m∧a<m∧m≤n)
set_option maxHeartbeats 4000000 in
set_option maxRecDepth 100000 in
theorem text_ (s:ByteArray) (a:Nat) (w:World) (ha:a<s.size) (hs:s.size≤4000):Calls Try.prog 50 #[.string s,.int .i64 a] w fun e w'=>TextR s.size a e∧w'=w:=by
 obtain ⟨n,hn⟩: ∃n,s.size=n:=⟨_,rfl⟩
 rw [hn] at ha hs⊢
 have j0:(n:Int)≤4000:=by omega
 have j1:(a:Int)<n:=by omega
 have j2:(0:Int)≤a:=by omega
 go_enter Try.func50,Try.ntmps50
 go_wp2_with (fail)
 go_loopg [7,8] n (fun gk s7 s8 wr=> ∃(i:Nat) (t:ByteArray),s8= .int .i64 i∧s7= .string t∧i≤n∧n<i+gk+1∧Hid (a<i∧t.size<i)∧wr=w)
 case atStart=>exact ⟨a+1,⟨#[]⟩,by simp,rfl,by omega,by omega,Lib.hid ⟨by omega,by show 0<_;omega⟩,rfl⟩
 case round=>
  obtain ⟨i,t,rfl,rfl,hin,hig,HT,rfl⟩:=hrel
  have i0:(0:Int)≤i:=by omega
  by_cases hlt:i<n
  ·obtain ⟨g',rfl⟩: ∃g',gk=g'+1:=⟨gk-1,by omega⟩
   have i1:(i:Int)<n:=by omega
   have HH:=Lib.hid (And.intro hlt (And.intro hig hn))
   have i2:(t.size:Int)<i:=by have:=HT.out.2;omega
   clear hlt hig hin
   by_cases h2:i+1<n
   ·have i3:(i:Int)+1<n:=by omega
    have H2:=Lib.hid h2
    clear h2
    go_wp2_with (fail)
    ·go_roundg g'
     case measure=>omega
     case rel=>exact ⟨i+1,t++s.extract i (i+1),rfl,rfl,HH.out.1,by have:=HH.out.2.1;omega,Lib.hid ⟨by have:=HT.out.1;omega,by have:=HT.out.2;rw [ByteArray.size_append,ByteArray.size_extract];omega⟩,rfl⟩
    ·go_roundg g'
     case measure=>omega
     case rel=>exact ⟨i+2,t++⟨#[39]⟩,by congr 1,rfl,H2.out,by have:=HH.out.2.1;omega,Lib.hid ⟨by have:=HT.out.1;omega,by have:=HT.out.2;rw [ByteArray.size_append];show _+1<_;omega⟩,rfl⟩
    ·go_returns
     exact ⟨⟨_,_,_,rfl,by have:=HT.out;have:=HH.out;omega,fun _=>⟨i+1,rfl,by have:=HT.out;omega,HH.out.1⟩⟩,rfl⟩
   ·have i3: ¬(i:Int)+1<n:=by omega
    clear h2
    go_wp2_with (fail)
    ·go_roundg g'
     case measure=>omega
     case rel=>exact ⟨i+1,t++s.extract i (i+1),rfl,rfl,HH.out.1,by have:=HH.out.2.1;omega,Lib.hid ⟨by have:=HT.out.1;omega,by have:=HT.out.2;rw [ByteArray.size_append,ByteArray.size_extract];omega⟩,rfl⟩
    ·go_returns
     exact ⟨⟨_,_,_,rfl,by have:=HT.out;have:=HH.out;omega,fun _=>⟨i+1,rfl,by have:=HT.out;omega,HH.out.1⟩⟩,rfl⟩
  ·have i1: ¬(i:Int)<n:=by omega
   clear hlt
   go_wp2_with (fail)
   go_returns
   exact ⟨⟨_,_,_,rfl,Nat.zero_le _,fun h=>nomatch h⟩,rfl⟩
end Go.Proofs.Ytmonfaepfbpdpaa
namespace Go.Proofs.Ytmonfaepfbpdpaa
open Go.RowKit
open Ux (i64B)
def IntsR (e:Ending):Prop:= ∃x y,e= .returned (.tuple #[.int .i64 x,.int .i64 y])∧i64B x∧i64B y
theorem wrapB (x:Int):i64B (wrap64 x):=by unfold wrap64 i64B;omega
theorem litB {x:Int} (h0: -9223372036854775808≤x) (h1:x≤9223372036854775807):i64B x:=⟨h0,h1⟩
set_option maxHeartbeats 4000000 in
set_option maxRecDepth 100000 in
theorem add_ (a b:Int) (w:World) (ha:i64B a) (hb:i64B b):Calls Try.prog 58 #[.int .i64 a,.int .i64 b] w fun e w'=>IntsR e∧w'=w:=by
 have a0:=ha.1
 have a1:=ha.2
 have b0:=hb.1
 have b1:=hb.2
 clear ha hb
 go_enter Try.func58,Try.ntmps58
 go_upto_region 1 with (fail)
 go_cut [23] (fun s23 wx=> ∃z,s23= .bool z∧w=wx)
 case first=>
  go_wp2_with (fail)
  all_goals go_meet
  all_goals exact ⟨_,rfl,rfl⟩
 obtain ⟨z,rfl,rfl⟩:=hcut
 cases z with
 |true=>
  go_wp2_with (fail)
  go_returns
  exact ⟨⟨_,_,rfl,litB (by decide) (by decide),litB (by decide) (by decide)⟩,rfl⟩
 |false=>
  go_wp2_with (fail)
  go_returns
  exact ⟨⟨_,_,rfl,wrapB _,litB (by decide) (by decide)⟩,rfl⟩
set_option maxHeartbeats 4000000 in
set_option maxRecDepth 100000 in
theorem sub_ (a b:Int) (w:World) (ha:i64B a) (hb:i64B b):Calls Try.prog 61 #[.int .i64 a,.int .i64 b] w fun e w'=>IntsR e∧w'=w:=by
 have a0:=ha.1
 have a1:=ha.2
 have b0:=hb.1
 have b1:=hb.2
 clear ha hb
 go_enter Try.func61,Try.ntmps61
 go_upto_region 1 with (fail)
 go_cut [23] (fun s23 wx=> ∃z,s23= .bool z∧w=wx)
 case first=>
  go_wp2_with (fail)
  all_goals go_meet
  all_goals exact ⟨_,rfl,rfl⟩
 obtain ⟨z,rfl,rfl⟩:=hcut
 cases z with
 |true=>
  go_wp2_with (fail)
  go_returns
  exact ⟨⟨_,_,rfl,litB (by decide) (by decide),litB (by decide) (by decide)⟩,rfl⟩
 |false=>
  go_wp2_with (fail)
  go_returns
  exact ⟨⟨_,_,rfl,wrapB _,litB (by decide) (by decide)⟩,rfl⟩
set_option maxHeartbeats 4000000 in
set_option maxRecDepth 100000 in
theorem neg_ (a:Int) (w:World) (ha:i64B a):Calls Try.prog 60 #[.int .i64 a] w fun e w'=>IntsR e∧w'=w:=by
 have C:=Lib.hid fun w'=>sub_ 0 a w' (litB (by decide) (by decide)) ha
 clear ha
 go_enter Try.func60,Try.ntmps60
 go_wp2_with (go_at_call 61;fail)
 refine (C.out w).mono ?_
 rintro e w1 ⟨⟨x,y,rfl,hx,hy⟩,rfl⟩
 have HX:=Lib.hid (And.intro hx hy)
 clear hx hy
 go_wp2_with (fail)
 go_returns
 exact ⟨⟨_,_,rfl,HX.out⟩,rfl⟩
set_option maxHeartbeats 4000000 in
set_option maxRecDepth 100000 in
theorem mul10_ (a:Int) (w:World) (ha:i64B a):Calls Try.prog 57 #[.int .i64 a,.int .i64 10] w fun e w'=>IntsR e∧w'=w:=by
 have CN:=Lib.hid fun w'=>neg_ 10 w' (litB (by decide) (by decide))
 have HA:=Lib.hid ha
 clear ha
 by_cases h0:a=0
 ·subst h0
  clear HA
  go_enter Try.func57,Try.ntmps57
  go_wp2_with (fail)
  go_returns
  exact ⟨⟨_,_,rfl,litB (by decide) (by decide),litB (by decide) (by decide)⟩,rfl⟩
 ·have k0:(a==0)=false:=by simpa using h0
  clear h0
  by_cases h1:a= -1
  ·subst h1
   clear HA
   go_enter Try.func57,Try.ntmps57
   go_wp2_with (go_at_call 60;fail)
   refine (CN.out w).mono ?_
   rintro e w1 ⟨⟨x,y,rfl,hx,hy⟩,rfl⟩
   have HX:=Lib.hid (And.intro hx hy)
   clear hx hy
   go_wp2_with (fail)
   go_returns
   exact ⟨⟨_,_,rfl,HX.out⟩,rfl⟩
  ·have k1:(a== -1)=false:=by simpa using h1
   clear h1 CN
   go_enter Try.func57,Try.ntmps57
   go_wp2_with (fail)
   all_goals go_returns
   ·exact ⟨⟨_,_,rfl,wrapB _,litB (by decide) (by decide)⟩,rfl⟩
   ·exact ⟨⟨_,_,rfl,litB (by decide) (by decide),litB (by decide) (by decide)⟩,rfl⟩
end Go.Proofs.Ytmonfaepfbpdpaa
namespace Go.Proofs.Ytmonfaepfbpdpaa
open Go.RowKit
open Ux (i64B)
set_option maxHeartbeats 4000000 in
set_option maxRecDepth 100000 in
theorem parse_ (s:ByteArray) (w:World) (h0:0<s.size) (hs:s.size≤4000):Calls Try.prog 45 #[.string s] w fun e w'=>IntsR e∧w'=w:=by
 have CM:=Lib.hid fun (a:Int) w' ha=>mul10_ a w' ha
 have CA:=Lib.hid fun (a b:Int) w' ha hb=>add_ a b w' ha hb
 have j0:(s.size:Int)≤4000:=by omega
 have j1:(0:Int)<s.size:=by omega
 have HE:Hid (s.size≤4000∧(s.extract 1 s.size).size≤4000):=Lib.hid (by rw [ByteArray.size_extract];omega)
 clear h0 hs
 go_enter Try.func45,Try.ntmps45
 go_upto_region 1 with (fail)
 go_cut [4] (fun s4 wx=> ∃z,s4= .bool z∧w=wx)
 case first=>
  go_wp2_with (fail)
  all_goals go_meet
  all_goals exact ⟨_,rfl,rfl⟩
 obtain ⟨z,rfl,rfl⟩:=hcut
 go_upto_if 19 with (fail)
 go_cut [0] (fun s0 wx=> ∃u:ByteArray,s0= .string u∧Hid (u.size≤4000)∧w=wx)
 case first=>
  cases z with
  |true=>
   go_wp2_with (fail)
   all_goals go_meet
   all_goals exact ⟨_,rfl,Lib.hid HE.out.2,rfl⟩
  |false=>
   go_wp2_with (fail)
   all_goals go_meet
   all_goals exact ⟨_,rfl,Lib.hid HE.out.1,rfl⟩
 obtain ⟨u,rfl,HU,rfl⟩:=hcut
 clear HE j0 j1
 obtain ⟨n,hn⟩: ∃n,u.size=n:=⟨_,rfl⟩
 have k0:(n:Int)≤4000:=by have:=HU.out;omega
 clear HU
 go_wp2_with (fail)
 go_loopg [5] n (fun gk s5 wr=> ∃i:Nat,s5= .int .i64 i∧i+gk=n∧wr=w)
 case atStart=>exact ⟨0,rfl,by omega,rfl⟩
 case round=>
  obtain ⟨i,rfl,hig,rfl⟩:=hrel
  have i0:(0:Int)≤i:=by omega
  by_cases hlt:i<n
  ·obtain ⟨g',rfl⟩: ∃g',gk=g'+1:=⟨gk-1,by omega⟩
   have i1:(i:Int)<n:=by omega
   clear hlt
   go_upto_region 7 with (fail)
   go_cut [37] (fun s37 wx=> ∃z,s37= .bool z∧wr=wx)
   case first=>
    go_wp2_with (fail)
    all_goals go_meet
    all_goals exact ⟨_,rfl,rfl⟩
   obtain ⟨y,rfl,rfl⟩:=hcut
   cases y with
   |true=>
    go_wp2_with (fail)
    go_returns
    exact ⟨⟨_,_,rfl,litB (by decide) (by decide),litB (by decide) (by decide)⟩,rfl⟩
   |false=>
    go_wp2_with (fail)
    go_roundg g'
    case measure=>omega
    case rel=>exact ⟨i+1,rfl,by omega,rfl⟩
  ·have i1: ¬(i:Int)<n:=by omega
   clear hlt
   obtain ⟨y,hy⟩: ∃b,u.toList.isEmpty=b:=⟨_,rfl⟩
   cases y with
   |true=>
    go_wp2_with (fail)
    go_returns
    exact ⟨⟨_,_,rfl,litB (by decide) (by decide),litB (by decide) (by decide)⟩,rfl⟩
   |false=>
    go_wp2_with (fail)
    clear i1 hig i0
    go_loopg [6,7] n (fun gk s6 s7 wx=> ∃(i:Nat) (x:Int),s7= .int .i64 i∧s6= .int .i64 x∧i+gk=n∧Hid (i64B x)∧wx=wr)
    case atStart=>exact ⟨0,0,rfl,rfl,by omega,Lib.hid (litB (by decide) (by decide)),rfl⟩
    case round=>
     obtain ⟨i,x,rfl,rfl,hig,HX,rfl⟩:=hrel
     have i0:(0:Int)≤i:=by omega
     by_cases hlt:i<n
     ·obtain ⟨g',rfl⟩: ∃g',gk=g'+1:=⟨gk-1,by omega⟩
      have i1:(i:Int)<n:=by omega
      clear hlt
      go_wp2_with (go_at_call 57;fail)
      refine (CM.out x _ HX.out).mono ?_
      rintro e w1 ⟨⟨p,q,rfl,hp,hq⟩,hw⟩
      obtain rfl:wr=w1:=hw.symm
      have HP:=Lib.hid (And.intro hp hq)
      clear hp hq
      obtain ⟨y,hy⟩: ∃b,(q !=0)=b:=⟨_,rfl⟩
      cases y with
      |true=>
       go_wp2_with (fail)
       go_returns
       exact ⟨⟨_,_,rfl,litB (by decide) (by decide),HP.out.2⟩,rfl⟩
      |false=>
       go_upto_region 18 with (fail)
       go_cut [10] (fun s10 wy=> ∃d,s10= .int .i64 d∧Hid (-300≤d∧d≤300)∧wr=wy)
       case first=>
        go_wp2_with (fail)
        all_goals go_meet
        all_goals exact ⟨_,rfl,Lib.hid (by omega),rfl⟩
       obtain ⟨d,rfl,HD,rfl⟩:=hcut
       go_upto_if 59 with (fail)
       go_cut [10] (fun s10 wy=> ∃d,s10= .int .i64 d∧Hid (i64B d)∧wr=wy)
       case first=>
        cases z with
        |true=>
         have d0:=HD.out.1
         have d1:=HD.out.2
         go_wp2_with (fail)
         all_goals go_meet
         all_goals exact ⟨_,rfl,Lib.hid (by unfold i64B;omega),rfl⟩
        |false=>
         go_wp2_with (fail)
         all_goals go_meet
         all_goals exact ⟨_,rfl,Lib.hid (by have:=HD.out;unfold i64B;omega),rfl⟩
       obtain ⟨d2,rfl,HD2,rfl⟩:=hcut
       go_wp2_with (go_at_call 58;fail)
       refine (CA.out p d2 _ HP.out.1 HD2.out).mono ?_
       rintro e w1 ⟨⟨p2,q2,rfl,hp,hq⟩,hw⟩
       obtain rfl:wr=w1:=hw.symm
       have HP2:=Lib.hid (And.intro hp hq)
       clear hp hq hy
       obtain ⟨y,hy⟩: ∃b,(q2 !=0)=b:=⟨_,rfl⟩
       cases y with
       |true=>
        go_wp2_with (fail)
        go_returns
        exact ⟨⟨_,_,rfl,litB (by decide) (by decide),HP2.out.2⟩,rfl⟩
       |false=>
        go_wp2_with (fail)
        go_roundg g'
        case measure=>omega
        case rel=>exact ⟨i+1,_,rfl,rfl,by omega,Lib.hid HP2.out.1,rfl⟩
     ·have i1: ¬(i:Int)<n:=by omega
      clear hlt
      go_wp2_with (fail)
      go_returns
      exact ⟨⟨_,_,rfl,HX.out,litB (by decide) (by decide)⟩,rfl⟩
end Go.Proofs.Ytmonfaepfbpdpaa
