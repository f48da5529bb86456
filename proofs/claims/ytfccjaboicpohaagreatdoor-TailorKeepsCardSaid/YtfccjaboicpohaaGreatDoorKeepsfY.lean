/- A part of the proof that the statement holds for every input that it names. No other condition. -/
import Derived.Test.YtfccjaboicpohaaGreatDoorKeepsY
import Derived.Test.YtfccjaboicpohaaGreatDoorJpY
import Derived.Test.YtfccjaboicpohaaGreatDoorCards
import Derived.Ground.GgzProg
import Derived.Ground.Names2Prog
import Derived.Ground.SlsfProg
import Derived.Test.YtfccjaboicpohaaGreatDoorProg
import Derived.Test.YtfccjaboicpohaaGreatDoorRows
import Derived.Test.YtfccjaboicpohaaGreatDoorTie
set_option linter.unusedVariables false
set_option linter.unusedSimpArgs false
namespace Go.Proofs.YtfccjaboicpohaaGreatDoor
open Go.RowKit
open Go.ChangeShapes Go.WideShapes Go.ChangeAt Go.Lib
theorem tabs_of {W:World} (h:laidMet Tryz.prog Rows.tailorKeepsRow.laid W):Tabs W:=
 utf8Tabs_of_readsT (U8Types.of260 Tryz.lays260) u8x (first_eq▸Lib.laidMet.reads h (.tail _ (.head _))) (acc_eq▸Lib.laidMet.reads h (.head _))
noncomputable def laidW (os:Os):World:=World.laidAll Tryz.prog os Rows.tailorKeepsRow.laid
def argZ:Array Value:= #[.slice none 0 0,.string ⟨#[]⟩,.string ⟨#[]⟩]
theorem readsZ (os:Os) {H:Type} (enc:TypeId×Value→H): ∃places,DataW.whole enc Tryz.prog ((laidW os).forCall (fun _ _=>0) ⟨#[],argZ,[]⟩).memory Tryz.f4.params.toList Rows.tailorKeepsSpec.vars false argZ.toList 8=some ([.nil,.lit (.string []),.lit (.string [])],[],places):=
 ⟨[],by kernel_rfl⟩
set_option maxRecDepth 100000 in
theorem lifted (os:Os) (started:os.Started) (H:Type) (enc:TypeId×Value→H) (F:Stop.Interp):
 ReturnsInHanded {} Tryz.checked os 4 .any ((OpenSpec.ofChange Rows.tailorKeepsSpec).preRow enc Tryz.prog Tryz.f4 Rows.tailorKeepsRow.domain false Rows.tailorKeepsRow.laid) (((OpenSpec.ofChange Rows.tailorKeepsSpec).at F).post enc Tryz.prog Tryz.f4 false true false false):=by
 obtain ⟨places,hx⟩:=readsZ os enc
 have hok:Input.okWideB Tryz.prog ((laidW os).forCall (fun _ _=>0) ⟨#[],argZ,[]⟩) 4 ⟨#[],argZ,[]⟩=true:=by kernel_rfl
 refine returnsInHanded_of_row (C:=Tryz.checked) (s:=OpenSpec.ofChange Rows.tailorKeepsSpec) own started (by kernel_rfl) Tryz.func4
  ⟨laidW os,fun _ _=>0,⟨#[],argZ,[]⟩,World.laidAll_os _ _ _,World.shaped_of_ZipB (by kernel_rfl) (by kernel_rfl),(Input.okWide_of_okWideB (base:=0) hok).1,(Input.okWide_of_okWideB hok).2,
    OpenSpec.preRow_of_cond 8 hx (by kernel_rfl) (fun k hk=>by cases hk) (by kernel_rfl) (by rw [MakeChecks.laidMetH_plain _ _ _ (by kernel_rfl)];exact laidMet_laidAll _ (by kernel_rfl) (by kernel_rfl)),
    by
     simp only [Assume.holds]
     exact ⟨by simp,by simp,(fun h=>by first|exact Modest.zero|cases h),by simp,by simp⟩⟩ ?_
 intro W base args ds gs before hval0 hW _ _ hWt hL hSh _
 have hval: ∀(j:Nat) t v,Tryz.f4.params[j]? =some t→args[j]? =some v→Value.okWide Tryz.prog W .any base t v:=hval0
 have hW':=hW
 obtain ⟨p,q,hA0,hV,rfl,_,_⟩:=hW
 have hA:DataW.TrodAll enc Tryz.prog W 0 (fun _=>true) true Tryz.f4.params.toList args.toList ds p:=hA0
 rw [Tryz.params4] at hA hval
 rw [MakeChecks.laidMetH_plain _ _ _ (by kernel_rfl)] at hL
 have hT:=tabs_of hL
 obtain ⟨args⟩:=args
 obtain ⟨v0,vs,d0,ds0,p0,q0,ha,rfl,rfl,h0,hA⟩:=trodAll_cons hA
 obtain ⟨v1,vs1,d1,ds1,p1,q1,rfl,rfl,rfl,h1,hA⟩:=trodAll_cons hA
 obtain ⟨v2,vs2,d2,ds2,p2,q2,rfl,rfl,rfl,h2,hA⟩:=trodAll_cons hA
 obtain ⟨rfl,rfl,rfl⟩:=trodAll_nil hA
 simp only at ha
 subst ha
 obtain ⟨rfl,rfl⟩:=trodVars_none hV
 have hw0: ∀z∈DataW.weights Tryz.prog 22 d0,z≤reachBytes:=fun z hz=>by
  have hb2:=hWt
  rw [Tryz.params4] at hb2
  have hz:z∈DataW.weights Tryz.checked.prog 22 d0:=hz
  exact of_decide_eq_true (List.all_eq_true.1 hb2 z (by simp [DataW.weightsEach,hz]))
 obtain ⟨l0,hl0⟩:=Ux.open_rules Tryz.underlying22 Tryz.underlying25 (by kernel_rfl) (by kernel_rfl) Tryz.underlying3 Tryz.underlying23 Tryz.underlying23 Tryz.underlying3 Tryz.underlying3 (by kernel_rfl) (by kernel_rfl) (by kernel_rfl) (by kernel_rfl) (hval 0 22 v0 rfl rfl) h0 hw0
 obtain ⟨s1,rfl,rfl,rfl,_⟩:=Go.ChangeMaps.open_string Tryz.underlying9 (hval 1 9 v1 rfl rfl) h1
 obtain ⟨s2,rfl,rfl,rfl,_⟩:=Go.ChangeMaps.open_string Tryz.underlying9 (hval 2 9 v2 rfl rfl) h2
 have hb_s1:s1.size≤140737488355328:=by
  have hb2:=hWt
  rw [Tryz.params4] at hb2
  have h:=of_decide_eq_true (List.all_eq_true.1 hb2 s1.data.toList.length (by simp [DataW.weightsEach,DataW.weights]))
  rw [show s1.data.toList.length=s1.size by simp] at h
  unfold reachBytes at h
  omega
 have hb_s2:s2.size≤140737488355328:=by
  have hb2:=hWt
  rw [Tryz.params4] at hb2
  have h:=of_decide_eq_true (List.all_eq_true.1 hb2 s2.data.toList.length (by simp [DataW.weightsEach,DataW.weights]))
  rw [show s2.data.toList.length=s2.size by simp] at h
  unfold reachBytes at h
  omega
 refine (keepsLaw_ v0 l0 s1 s2 W hl0 hT (by omega) (by omega)).mono fun e W' ⟨he,ht⟩=> ?_
 subst he
 exact ⟨_,rfl,Ux.law_post laidOut (by kernel_rfl) (by kernel_rfl) Tryz.underlying4 rfl hW' rfl rfl rfl ht.below⟩
theorem jA:(Rows.tailorKeepsRow.inPlace==Tryz.prog.inPlace 4&&Rows.tailorKeepsRow.unfollowed==Tryz.prog.unfollowed 4)=true:=by kernel_rfl
theorem jB:(Rows.tailorKeepsRow.recurses==Tryz.prog.recurses 4&&Rows.tailorKeepsRow.named==Tryz.prog.varsNamed 4)=true:=by kernel_rfl
theorem jN:Tryz.pinned.checked.prog.funcNamed Rows.tailorKeepsRow.func=some 4:=by kernel_rfl
theorem jC:joinedFacts Tryz.prog 4 Tryz.f4 (OpenSpec.ofChange Rows.tailorKeepsSpec).bare Rows.tailorKeepsRow=true:=
 Ux.jf_of laidOut jmr jA jB (by rw [jpk];rfl) jsh jme (by rw [jlf];rfl) (by kernel_rfl)
theorem tailorKeeps_holds:Rows.TailorKeepsSaid:=
 OpenClaim.holds_of_cond 4 Tryz.f4 rfl rfl rfl rfl rfl rfl rfl ⟨rfl,rfl,rfl,rfl,rfl⟩ rfl rfl rfl rfl rfl jN Tryz.func4 jC
  (of_decide_eq_true (by kernel_rfl)) (by unfold Func.isWrapper;first|(rw [if_pos (by decide+kernel)];kernel_rfl)|(rw [if_neg (by decide+kernel)];exact ⟨rfl,rfl⟩))
  (fun os started H enc _ F=>by rw [OpenClaim.pre_eq_preRow];exact lifted os started H enc F)
theorem plainL (f:FuncId) (fn:Func) (hf:Tryz.pinned.checked.prog.funcNamed "umlaut/umlautlaw7.TailorKeeps"=some f) (hfn:Tryz.pinned.checked.prog.funcs[f]? =some fn):
 true=Tryz.pinned.checked.prog.looks []∧∀(j:Nat) t,fn.params[j]? =some t→Tryz.pinned.checked.prog.wantsStandIn t=false:=by
 obtain rfl:f=4:=Option.some.inj ((show Tryz.prog.funcNamed "umlaut/umlautlaw7.TailorKeeps"=some 4 by kernel_rfl).symm.trans hf)|>.symm
 obtain rfl:fn=Tryz.f4:=(Option.some.inj (Tryz.func4.symm.trans hfn)).symm
 refine ⟨by kernel_rfl,fun j t ht=> ?_⟩
 rw [Tryz.params4] at ht
 have hm:t∈[22,9,9]:=by simpa using Array.mem_of_getElem? ht
 have hall:([22,9,9].all fun u=> !Tryz.prog.wantsStandIn u)=true:=by kernel_rfl
 exact (show Tryz.prog.wantsStandIn t=false by simpa using List.all_eq_true.1 hall t hm)
theorem tailorKeepsCard_proved:Rows.TailorKeepsCardSaid:=
 Claim7.holds_tied_plain_at .later [] _ _ _ _ tailorKeeps_holds (fun _ h=>by cases h) (by kernel_rfl) (fun _ h=>by cases h) tailorKeeps_row_tie rfl ⟨rfl,rfl⟩ (by kernel_rfl) rfl plainL (by kernel_rfl)
#print axioms tailorKeepsCard_proved
end Go.Proofs.YtfccjaboicpohaaGreatDoor
