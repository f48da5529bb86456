/- A part of the proof that the statement holds for every input that it names. No other condition. -/
import Derived.Test.YtfccjaboicpohaaGreatDoorTailBY
import Derived.Test.YtfccjaboicpohaaGreatDoorTsAY
set_option linter.unusedVariables false
set_option linter.unusedSimpArgs false
namespace Go.Proofs.YtfccjaboicpohaaGreatDoor
open Go.RowKit
open Ux (Row Ent sv ev iv Grow KGrow Tri)
open Ux.Rules (Rul)
theorem KGrow.mono0 {w:World} {lo:Nat} {t:TypeId} {k:Nat} {v:Value} {n:Nat} {xs:List Value} (h:KGrow w lo t k v n xs):KGrow w 0 t k v n xs:=⟨h.1,fun _ _=>Nat.zero_le _⟩
end Go.Proofs.YtfccjaboicpohaaGreatDoor
namespace Go.Proofs.YtfccjaboicpohaaGreatDoor
open Go.RowKit
open Ux (Row Ent sv ev SameE rootT elemsE)
open Ux.Sign (cp raw signs)
open Ux.Rules (Rul parseS)
def aw7T:List Ent:=(applyT (rootT 132) [] [⟨1,[99],[]⟩,⟨2,[99,104],[]⟩]).2
theorem aw7_lit:signs (⟨#[38,32,99,32,60,32,99,104]⟩:ByteArray).data.toList= [38,32,99,32,60,32,99,104]:=Ux.Sign.signs_ascii _ (by decide)
theorem aw7_ch:signs (⟨#[99,104]⟩:ByteArray).data.toList= [99,104]:=Ux.Sign.signs_ascii _ (by decide)
theorem aw7_d:signs (⟨#[100]⟩:ByteArray).data.toList= [100]:=Ux.Sign.signs_ascii _ (by decide)
theorem aw7_parse:parseS [38,32,99,32,60,32,99,104]=([⟨1,[99],[]⟩,⟨2,[99,104],[]⟩],none):=Ux.parse_pair (by unfold Ux.letC;omega) (by unfold Ux.letC;omega) (by unfold Ux.letC;omega)
theorem aw7_ok:(applyT (rootT 132) [] [⟨1,[99],[]⟩,⟨2,[99,104],[]⟩]).1=0:=by decide+kernel
theorem aw7_e1:elemsE aw7T [99,104]= [17899524]:=by decide+kernel
theorem aw7_e2:elemsE aw7T [100]= [18423812]:=by decide+kernel
set_option maxHeartbeats 8000000 in
set_option maxRecDepth 100000 in
theorem awake7_ (w:World) (hT:Tabs w):Calls Tryz.prog 9 #[] w fun e w'=>e= .returned (.bool true)∧Ux.Touch (fun _=>False) w w':=by
 have hR:=readR_ ⟨#[38,32,99,32,60,32,99,104]⟩ w (by decide) hT
 rw [aw7_lit] at hR
 unfold ReadR at hR
 simp only [aw7_parse,aw7_ok] at hR
 have HR:=Lib.hid hR
 have HT:=Lib.hid hT
 clear hR hT
 go_enter Tryz.func9,Tryz.ntmps9
 go_wp2_with (go_at_call 42;fail)
 refine HR.out.mono ?_
 rintro e w1 ⟨h,T1⟩
 rw [if_neg (by decide)] at h
 rcases h with ⟨h,_⟩|⟨_,B,mb,E,rfl,hTA,hS⟩
 ·exact absurd rfl h
 have hel: ∀s,elemsE E s=elemsE aw7T s:=fun s=>Ux.elemsE_congr (Ux.findE_perm hTA.1.1.1 hS.1) _
 have HE1:=Lib.hid fun W (T:Ux.Touch (fun _=>False) w1 W)=>elements_ B mb E ⟨#[99,104]⟩ W (hTA.touch0 T) (HT.out.touch (T1.trans T fun _ _ f=>f)) (by decide)
 have HE2:=Lib.hid fun W (T:Ux.Touch (fun _=>False) w1 W)=>elements_ B mb E ⟨#[100]⟩ W (hTA.touch0 T) (HT.out.touch (T1.trans T fun _ _ f=>f)) (by decide)
 rw [aw7_ch,hel,aw7_e1] at HE1
 rw [aw7_d,hel,aw7_e2] at HE2
 have H1:=Lib.hid T1
 clear T1 hTA hS hel
 go_wp2_with (go_at_call 43;fail)
 refine (HE1.out w1 (Ux.Touch.refl _ _)).mono ?_
 rintro e w2 ⟨u,rfl,hu,T2⟩
 obtain ⟨a1,c1,hu1,hc1⟩:=hu.is
 have hu1:u= .slice a1 1 c1:=hu1
 subst hu1
 obtain ⟨g1,rfl,_,ha⟩:=hc1 0 _ rfl
 have H2:=Lib.hid (And.intro T2 ha)
 clear T2 ha hc1 hu
 go_wp2_with (go_at_call 43;fail)
 refine (HE2.out w2 H2.out.1).mono ?_
 rintro e w3 ⟨u,rfl,hu,T3⟩
 obtain ⟨a2,c2,hu1,hc2⟩:=hu.is
 have hu1:u= .slice a2 1 c2:=hu1
 subst hu1
 obtain ⟨g2,rfl,_,hb⟩:=hc2 0 _ rfl
 have ha:=T3.cell H2.out.2 (fun f=>f)
 have H3:=Lib.hid (H1.out.trans (H2.out.1.trans T3 fun _ _ f=>f) fun _ _ f=>f)
 clear T3 hc2 hu
 go_wp2_with (go_at_call 44;fail)
 refine (weight_ 1 17899524 1 rfl (.inl rfl) (by decide) w3).mono ?_
 rintro e w4 ⟨rfl,hw4⟩
 obtain rfl:w3=w4:=hw4.symm
 rw [show wt 1 17899524=273 by decide+kernel]
 clear ha
 go_wp2_with (go_at_call 44;fail)
 refine (weight_ 1 18423812 1 rfl (.inl rfl) (by decide) w3).mono ?_
 rintro e w4 ⟨rfl,hw4⟩
 obtain rfl:w3=w4:=hw4.symm
 rw [show wt 1 18423812=281 by decide+kernel]
 clear hb
 go_wp2
 go_returns
 exact ⟨rfl,H3.out⟩
end Go.Proofs.YtfccjaboicpohaaGreatDoor
