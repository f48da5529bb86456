/- A part of the proof that the statement holds for every input that it names. No other condition. -/
import Derived.Test.YtmnkinaaoifpeaaGreatDoorS20Z
import Derived.Test.YtmnkinaaoifpeaaGreatDoorJpZ
import Derived.Test.YtmnkinaaoifpeaaGreatDoorTie
import Derived.Test.YtmnkinaaoifpeaaGreatDoorCards
import Derived.Test.YtmnkinaaoifpeaaGreatDoorRows
set_option linter.unusedVariables false
set_option linter.unusedSimpArgs false
namespace Go.Proofs.YtmnkinaaoifpeaaGreatDoor
open Go.RowKit
open Go.ChangeShapes Go.WideShapes Go.ChangeAt Go.Lib
theorem tabs_of {W:World} (h:laidMet Tryz.prog Rows.storeNumbersRow.laid W):Tabs W:=
 utf8Tabs_of_readsT (U8Types.of260 Tryz.lays260) u8x (first_eq▸Lib.laidMet.reads h (.tail _ (.head _))) (acc_eq▸Lib.laidMet.reads h (.head _))
noncomputable def laidW (os:Os):World:=World.laidAll Tryz.prog os Rows.storeNumbersRow.laid
def argZ:Array Value:= #[.slice none 0 0]
theorem readsZ (os:Os) {H:Type} (enc:TypeId×Value→H): ∃places,DataW.whole enc Tryz.prog ((laidW os).forCall (fun _ _=>0) ⟨#[],argZ,[]⟩).memory Tryz.f3.params.toList Rows.storeNumbersSpec.vars false argZ.toList 8=some ([.nil],[],places):=
 ⟨[],by kernel_rfl⟩
set_option maxRecDepth 100000 in
theorem lifted (os:Os) (started:os.Started) (H:Type) (enc:TypeId×Value→H) (F:Stop.Interp):
 ReturnsInHanded {} Tryz.checked os 3 .any ((OpenSpec.ofChange Rows.storeNumbersSpec).preRow enc Tryz.prog Tryz.f3 Rows.storeNumbersRow.domain false Rows.storeNumbersRow.laid) (((OpenSpec.ofChange Rows.storeNumbersSpec).at F).post enc Tryz.prog Tryz.f3 false true false false):=by
 obtain ⟨places,hx⟩:=readsZ os enc
 have hok:Input.okWideB Tryz.prog ((laidW os).forCall (fun _ _=>0) ⟨#[],argZ,[]⟩) 3 ⟨#[],argZ,[]⟩=true:=by kernel_rfl
 refine returnsInHanded_of_row (C:=Tryz.checked) (s:=OpenSpec.ofChange Rows.storeNumbersSpec) own started (by kernel_rfl) Tryz.func3
  ⟨laidW os,fun _ _=>0,⟨#[],argZ,[]⟩,World.laidAll_os _ _ _,World.shaped_of_ZipB (by kernel_rfl) (by kernel_rfl),(Input.okWide_of_okWideB (base:=0) hok).1,(Input.okWide_of_okWideB hok).2,
    OpenSpec.preRow_of_cond 8 hx (by kernel_rfl) (fun k hk=>by cases hk) (by kernel_rfl) (by rw [MakeChecks.laidMetH_plain _ _ _ (by kernel_rfl)];exact laidMet_laidAll _ (by kernel_rfl) (by kernel_rfl)),
    by
     simp only [Assume.holds]
     exact ⟨by simp,by simp,(fun h=>by first|exact Modest.zero|cases h),by simp,by simp⟩⟩ ?_
 intro W base args ds gs before hval0 hW _ _ hWt hL hSh _
 have hval: ∀(j:Nat) t v,Tryz.f3.params[j]? =some t→args[j]? =some v→Value.okWide Tryz.prog W .any base t v:=hval0
 have hW':=hW
 obtain ⟨p,q,hA0,hV,rfl,_,_⟩:=hW
 have hA:DataW.TrodAll enc Tryz.prog W 0 (fun _=>true) true Tryz.f3.params.toList args.toList ds p:=hA0
 rw [Tryz.params3] at hA hval
 rw [MakeChecks.laidMetH_plain _ _ _ (by kernel_rfl)] at hL
 have hT:=tabs_of hL
 obtain ⟨args⟩:=args
 obtain ⟨v0,vs,d0,ds0,p0,q0,ha,rfl,rfl,h0,hA⟩:=trodAll_cons hA
 obtain ⟨rfl,rfl,rfl⟩:=trodAll_nil hA
 simp only at ha
 subst ha
 obtain ⟨rfl,rfl⟩:=trodVars_none hV
 obtain ⟨l0,hl0⟩:=Ux.open_nums Tryz.underlying22 Tryz.underlying3 (by kernel_rfl) (hval 0 22 v0 rfl rfl) h0
 refine (numbersLaw_ v0 l0 W hl0 hT).mono fun e W' ⟨he,ht⟩=> ?_
 subst he
 exact ⟨_,rfl,Ux.law_post laidOut (by kernel_rfl) (by kernel_rfl) Tryz.underlying4 rfl hW' rfl rfl rfl ht.below⟩
theorem jA:(Rows.storeNumbersRow.inPlace==Tryz.prog.inPlace 3&&Rows.storeNumbersRow.unfollowed==Tryz.prog.unfollowed 3)=true:=by kernel_rfl
theorem jB:(Rows.storeNumbersRow.recurses==Tryz.prog.recurses 3&&Rows.storeNumbersRow.named==Tryz.prog.varsNamed 3)=true:=by kernel_rfl
theorem jN:Tryz.pinned.checked.prog.funcNamed Rows.storeNumbersRow.func=some 3:=by kernel_rfl
theorem jC:joinedFacts Tryz.prog 3 Tryz.f3 (OpenSpec.ofChange Rows.storeNumbersSpec).bare Rows.storeNumbersRow=true:=
 Ux.jf_of laidOut jmr jA jB (by rw [jpk];rfl) jsh jme (by rw [jlf];rfl) (by kernel_rfl)
theorem storeNumbers_holds:Rows.StoreNumbersSaid:=
 OpenClaim.holds_of_cond 3 Tryz.f3 rfl rfl rfl rfl rfl rfl rfl ⟨rfl,rfl,rfl,rfl,rfl⟩ rfl rfl rfl rfl rfl jN Tryz.func3 jC
  (of_decide_eq_true (by kernel_rfl)) (by unfold Func.isWrapper;first|(rw [if_pos (by decide+kernel)];kernel_rfl)|(rw [if_neg (by decide+kernel)];exact ⟨rfl,rfl⟩))
  (fun os started H enc _ F=>by rw [OpenClaim.pre_eq_preRow];exact lifted os started H enc F)
theorem plainL (f:FuncId) (fn:Func) (hf:Tryz.pinned.checked.prog.funcNamed "umlaut/umlautlaw19.StoreNumbers"=some f) (hfn:Tryz.pinned.checked.prog.funcs[f]? =some fn):
 true=Tryz.pinned.checked.prog.looks []∧∀(j:Nat) t,fn.params[j]? =some t→Tryz.pinned.checked.prog.wantsStandIn t=false:=by
 obtain rfl:f=3:=Option.some.inj ((show Tryz.prog.funcNamed "umlaut/umlautlaw19.StoreNumbers"=some 3 by kernel_rfl).symm.trans hf)|>.symm
 obtain rfl:fn=Tryz.f3:=(Option.some.inj (Tryz.func3.symm.trans hfn)).symm
 refine ⟨by kernel_rfl,fun j t ht=> ?_⟩
 rw [Tryz.params3] at ht
 have hm:t∈[22]:=by simpa using Array.mem_of_getElem? ht
 have hall:([22].all fun u=> !Tryz.prog.wantsStandIn u)=true:=by kernel_rfl
 exact (show Tryz.prog.wantsStandIn t=false by simpa using List.all_eq_true.1 hall t hm)
theorem storeNumbersCard_proved:Rows.StoreNumbersCardSaid:=
 Claim7.holds_tied_plain_at .later [] _ _ _ _ storeNumbers_holds (fun _ h=>by cases h) (by kernel_rfl) (fun _ h=>by cases h) storeNumbers_row_tie rfl ⟨rfl,rfl⟩ (by kernel_rfl) rfl plainL (by kernel_rfl)
#print axioms storeNumbersCard_proved
end Go.Proofs.YtmnkinaaoifpeaaGreatDoor
