/- A part of the proof that the statement holds for every input that it names. No other condition. -/
import Derived.Test.YtfccjaboicpohaaGreatDoorPutBY
import Derived.Test.YtfccjaboicpohaaGreatDoorJpY
import Derived.Test.YtfccjaboicpohaaGreatDoorCards
import Derived.Test.YtfccjaboicpohaaGreatDoorRows
import Derived.Test.YtfccjaboicpohaaGreatDoorTie
set_option linter.unusedVariables false
set_option linter.unusedSimpArgs false
namespace Go.Proofs.YtfccjaboicpohaaGreatDoor
open Go.RowKit
open Go.ChangeShapes Go.WideShapes Go.ChangeAt Go.Lib
theorem tabs_of {W:World} (h:laidMet Tryz.prog Rows.tablePutsRow.laid W):Tabs W:=
 utf8Tabs_of_readsT (U8Types.of260 Tryz.lays260) u8x (first_eq▸Lib.laidMet.reads h (.tail _ (.tail _ (.tail _ (.tail _ (.head _)))))) (acc_eq▸Lib.laidMet.reads h (.tail _ (.tail _ (.tail _ (.head _)))))
def dbrT:List Int:= [0,1,56,2,57,49,28,3,61,58,42,50,38,29,17,4,62,47,59,36,45,43,51,22,53,39,33,30,24,18,12,5,63,55,48,27,60,41,37,16,46,35,44,21,52,32,23,11,54,26,40,15,34,20,31,10,25,14,19,9,13,8,7,6]
theorem dbr_eq:(Rows.laid_math_bits_deBruijn64tab (H:=Unit))=Lib.tabData .u8 dbrT:=by kernel_rfl
theorem tabD_of {W:World} (h:laidMet Tryz.prog Rows.tablePutsRow.laid W):TabD W:=by
 obtain ⟨g,t,cs,fuel,p,hg,hty,hvar,hd⟩:=Lib.laidMet.reads h (.tail _ (.head _))
 obtain rfl:=Option.some.inj ((show Tryz.prog.globalNamed "math/bits.deBruijn64tab"=some 5 by kernel_rfl).symm.trans hg)
 obtain rfl:=Option.some.inj ((show (Tryz.prog.globals[5]?).map (·.type)=some 330 by kernel_rfl).symm.trans hty)
 rw [dbr_eq] at hd
 have hcs:=cells_of_tab Tryz.underlying330 Tryz.underlying5 (by kernel_rfl) (by kernel_rfl) hd
 have h1:=World.var?_cell hg hvar 15
 unfold TabD
 rw [h1,←Array.getElem?_toList,hcs]
 rfl
noncomputable def laidW (os:Os):World:=World.laidAll Tryz.prog os Rows.tablePutsRow.laid
def argZ:Array Value:= #[.slice none 0 0,.slice none 0 0]
theorem readsZ (os:Os) {H:Type} (enc:TypeId×Value→H): ∃places,DataW.whole enc Tryz.prog ((laidW os).forCall (fun _ _=>0) ⟨#[],argZ,[]⟩).memory Tryz.f5.params.toList Rows.tablePutsSpec.vars false argZ.toList 8=some ([.nil,.nil],[],places):=
 ⟨[],by kernel_rfl⟩
set_option maxRecDepth 100000 in
theorem lifted (os:Os) (started:os.Started) (H:Type) (enc:TypeId×Value→H) (F:Stop.Interp):
 ReturnsInHanded {} Tryz.checked os 5 .any ((OpenSpec.ofChange Rows.tablePutsSpec).preRow enc Tryz.prog Tryz.f5 Rows.tablePutsRow.domain false Rows.tablePutsRow.laid) (((OpenSpec.ofChange Rows.tablePutsSpec).at F).post enc Tryz.prog Tryz.f5 false true false false):=by
 obtain ⟨places,hx⟩:=readsZ os enc
 have hok:Input.okWideB Tryz.prog ((laidW os).forCall (fun _ _=>0) ⟨#[],argZ,[]⟩) 5 ⟨#[],argZ,[]⟩=true:=by kernel_rfl
 refine returnsInHanded_of_row (C:=Tryz.checked) (s:=OpenSpec.ofChange Rows.tablePutsSpec) own started (by kernel_rfl) Tryz.func5
  ⟨laidW os,fun _ _=>0,⟨#[],argZ,[]⟩,World.laidAll_os _ _ _,World.shaped_of_ZipB (by kernel_rfl) (by kernel_rfl),(Input.okWide_of_okWideB (base:=0) hok).1,(Input.okWide_of_okWideB hok).2,
    OpenSpec.preRow_of_cond 8 hx (by kernel_rfl) (fun k hk=>by cases hk) (by kernel_rfl) (by rw [MakeChecks.laidMetH_plain _ _ _ (by kernel_rfl)];exact laidMet_laidAll _ (by kernel_rfl) (by kernel_rfl)),
    by
     simp only [Assume.holds]
     exact ⟨by simp,by simp,(fun h=>by first|exact Modest.zero|cases h),by simp,by simp⟩⟩ ?_
 intro W base args ds gs before hval0 hW _ _ hWt hL hSh _
 have hval: ∀(j:Nat) t v,Tryz.f5.params[j]? =some t→args[j]? =some v→Value.okWide Tryz.prog W .any base t v:=hval0
 have hW':=hW
 obtain ⟨p,q,hA0,hV,rfl,_,_⟩:=hW
 have hA:DataW.TrodAll enc Tryz.prog W 0 (fun _=>true) true Tryz.f5.params.toList args.toList ds p:=hA0
 rw [Tryz.params5] at hA hval
 rw [MakeChecks.laidMetH_plain _ _ _ (by kernel_rfl)] at hL
 have hT:=tabs_of hL
 have hD:=tabD_of hL
 obtain ⟨args⟩:=args
 obtain ⟨v0,vs,d0,ds0,p0,q0,ha,rfl,rfl,h0,hA⟩:=trodAll_cons hA
 obtain ⟨v1,vs1,d1,ds1,p1,q1,rfl,rfl,rfl,h1,hA⟩:=trodAll_cons hA
 obtain ⟨rfl,rfl,rfl⟩:=trodAll_nil hA
 simp only at ha
 subst ha
 obtain ⟨rfl,rfl⟩:=trodVars_none hV
 obtain ⟨l0,hl0⟩:=Ux.open_ops Tryz.underlying45 Tryz.underlying48 (by kernel_rfl) (by kernel_rfl) Tryz.underlying23 Tryz.underlying46 Tryz.underlying3 Tryz.underlying55 (by kernel_rfl) (by kernel_rfl) (hval 0 45 v0 rfl rfl) h0
 obtain ⟨l1,hl1⟩:=Ux.open_nums Tryz.underlying23 Tryz.underlying3 (by kernel_rfl) (hval 1 23 v1 rfl rfl) h1
 refine (putsLaw_ v0 l0 v1 l1 W hl0 hl1 hT hD).mono fun e W' ⟨he,ht⟩=> ?_
 subst he
 exact ⟨_,rfl,Ux.law_post laidOut (by kernel_rfl) (by kernel_rfl) Tryz.underlying4 rfl hW' rfl rfl rfl ht.below⟩
theorem jA:(Rows.tablePutsRow.inPlace==Tryz.prog.inPlace 5&&Rows.tablePutsRow.unfollowed==Tryz.prog.unfollowed 5)=true:=by kernel_rfl
theorem jB:(Rows.tablePutsRow.recurses==Tryz.prog.recurses 5&&Rows.tablePutsRow.named==Tryz.prog.varsNamed 5)=true:=by kernel_rfl
theorem jN:Tryz.pinned.checked.prog.funcNamed Rows.tablePutsRow.func=some 5:=by kernel_rfl
theorem jC:joinedFacts Tryz.prog 5 Tryz.f5 (OpenSpec.ofChange Rows.tablePutsSpec).bare Rows.tablePutsRow=true:=
 Ux.jf_of laidOut jmr jA jB (by rw [jpk];rfl) jsh jme (by rw [jlf];rfl) (by kernel_rfl)
theorem tablePuts_holds:Rows.TablePutsSaid:=
 OpenClaim.holds_of_cond 5 Tryz.f5 rfl rfl rfl rfl rfl rfl rfl ⟨rfl,rfl,rfl,rfl,rfl⟩ rfl rfl rfl rfl rfl jN Tryz.func5 jC
  (of_decide_eq_true (by kernel_rfl)) (by unfold Func.isWrapper;first|(rw [if_pos (by decide+kernel)];kernel_rfl)|(rw [if_neg (by decide+kernel)];exact ⟨rfl,rfl⟩))
  (fun os started H enc _ F=>by rw [OpenClaim.pre_eq_preRow];exact lifted os started H enc F)
theorem plainL (f:FuncId) (fn:Func) (hf:Tryz.pinned.checked.prog.funcNamed "umlaut/umlautlaw5.TablePuts"=some f) (hfn:Tryz.pinned.checked.prog.funcs[f]? =some fn):
 true=Tryz.pinned.checked.prog.looks []∧∀(j:Nat) t,fn.params[j]? =some t→Tryz.pinned.checked.prog.wantsStandIn t=false:=by
 obtain rfl:f=5:=Option.some.inj ((show Tryz.prog.funcNamed "umlaut/umlautlaw5.TablePuts"=some 5 by kernel_rfl).symm.trans hf)|>.symm
 obtain rfl:fn=Tryz.f5:=(Option.some.inj (Tryz.func5.symm.trans hfn)).symm
 refine ⟨by kernel_rfl,fun j t ht=> ?_⟩
 rw [Tryz.params5] at ht
 have hm:t∈[45,23]:=by simpa using Array.mem_of_getElem? ht
 have hall:([45,23].all fun u=> !Tryz.prog.wantsStandIn u)=true:=by kernel_rfl
 exact (show Tryz.prog.wantsStandIn t=false by simpa using List.all_eq_true.1 hall t hm)
theorem tablePutsCard_proved:Rows.TablePutsCardSaid:=
 Claim7.holds_tied_plain_at .later [] _ _ _ _ tablePuts_holds (fun _ h=>by cases h) (by kernel_rfl) (fun _ h=>by cases h) tablePuts_row_tie rfl ⟨rfl,rfl⟩ (by kernel_rfl) rfl plainL (by kernel_rfl)
#print axioms tablePutsCard_proved
end Go.Proofs.YtfccjaboicpohaaGreatDoor
