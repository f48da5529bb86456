/- A part of the proof that the statement holds for every input that it names. No other condition. -/
import Derived.Test.YtclffhpdekepkaaDoorMarksZ
import Derived.Test.YtclffhpdekepkaaDoorUxEndsZ
import Derived.Test.YtclffhpdekepkaaDoorJpZ
import Derived.Test.YtclffhpdekepkaaDoorTie
import Derived.Test.YtclffhpdekepkaaDoorCards
import Derived.Test.YtclffhpdekepkaaDoorRows
set_option linter.unusedVariables false
set_option linter.unusedSimpArgs false
namespace Go.Proofs.YtclffhpdekepkaaDoor
open Go.RowKit
open Go.ChangeShapes Go.WideShapes Go.ChangeAt Go.Lib
theorem tabs_of {W:World} (h:laidMet Tryd.prog Rows.tableMarksRow.laid W):Tabs W:=
 utf8Tabs_of_readsT (U8Types.of260 Tryd.lays260) u8x (first_eq▸Lib.laidMet.reads h (.tail _ (.tail _ (.tail _ (.tail _ (.head _)))))) (acc_eq▸Lib.laidMet.reads h (.tail _ (.tail _ (.tail _ (.head _)))))
def dbrT:List Int:= [0,1,56,2,57,49,28,3,61,58,42,50,38,29,17,4,62,47,59,36,45,43,51,22,53,39,33,30,24,18,12,5,63,55,48,27,60,41,37,16,46,35,44,21,52,32,23,11,54,26,40,15,34,20,31,10,25,14,19,9,13,8,7,6]
theorem dbr_eq:(Rows.laid_math_bits_deBruijn64tab (H:=Unit))=Lib.tabData .u8 dbrT:=by kernel_rfl
theorem tabD_of {W:World} (h:laidMet Tryd.prog Rows.tableMarksRow.laid W):TabD W:=by
 obtain ⟨g,t,cs,fuel,p,hg,hty,hvar,hd⟩:=Lib.laidMet.reads h (.tail _ (.head _))
 obtain rfl:=Option.some.inj ((show Tryd.prog.globalNamed "math/bits.deBruijn64tab"=some 5 by kernel_rfl).symm.trans hg)
 obtain rfl:=Option.some.inj ((show (Tryd.prog.globals[5]?).map (·.type)=some 162 by kernel_rfl).symm.trans hty)
 rw [dbr_eq] at hd
 have hcs:=cells_of_tab Tryd.underlying162 Tryd.underlying5 (by kernel_rfl) (by kernel_rfl) hd
 have h1:=World.var?_cell hg hvar 15
 unfold TabD
 rw [h1,←Array.getElem?_toList,hcs]
 rfl
noncomputable def laidW (os:Os):World:=World.laidAll Tryd.prog os Rows.tableMarksRow.laid
def argZ:Array Value:= #[.int .u8 0,.int .i64 0]
theorem readsZ (os:Os) {H:Type} (enc:TypeId×Value→H): ∃places,DataW.whole enc Tryd.prog ((laidW os).forCall (fun _ _=>0) ⟨#[],argZ,[]⟩).memory Tryd.f3.params.toList Rows.tableMarksSpec.vars false argZ.toList 8=some ([.lit (.int .u8 0),.lit (.int .i64 0)],[],places):=
 ⟨[],by kernel_rfl⟩
set_option maxRecDepth 100000 in
theorem lifted (os:Os) (started:os.Started) (H:Type) (enc:TypeId×Value→H) (F:Stop.Interp):
 ReturnsInHanded {} Tryd.checked os 3 .any ((OpenSpec.ofChange Rows.tableMarksSpec).preRow enc Tryd.prog Tryd.f3 Rows.tableMarksRow.domain false Rows.tableMarksRow.laid) (((OpenSpec.ofChange Rows.tableMarksSpec).at F).post enc Tryd.prog Tryd.f3 false true false false):=by
 obtain ⟨places,hx⟩:=readsZ os enc
 have hok:Input.okWideB Tryd.prog ((laidW os).forCall (fun _ _=>0) ⟨#[],argZ,[]⟩) 3 ⟨#[],argZ,[]⟩=true:=by kernel_rfl
 refine returnsInHanded_of_row (C:=Tryd.checked) (s:=OpenSpec.ofChange Rows.tableMarksSpec) own started (by kernel_rfl) Tryd.func3
  ⟨laidW os,fun _ _=>0,⟨#[],argZ,[]⟩,World.laidAll_os _ _ _,World.shaped_of_ZipB (by kernel_rfl) (by kernel_rfl),(Input.okWide_of_okWideB (base:=0) hok).1,(Input.okWide_of_okWideB hok).2,
    OpenSpec.preRow_of_cond 8 hx (by kernel_rfl) (fun k hk=>by cases hk) (by kernel_rfl) (by rw [MakeChecks.laidMetH_plain _ _ _ (by kernel_rfl)];exact laidMet_laidAll _ (by kernel_rfl) (by kernel_rfl)),
    by
     simp only [Assume.holds]
     exact ⟨by simp,by simp,(fun h=>by first|exact Modest.zero|cases h),by simp,by simp⟩⟩ ?_
 intro W base args ds gs before hval0 hW _ _ hWt hL hSh _
 have hval: ∀(j:Nat) t v,Tryd.f3.params[j]? =some t→args[j]? =some v→Value.okWide Tryd.prog W .any base t v:=hval0
 have hW':=hW
 obtain ⟨p,q,hA0,hV,rfl,_,_⟩:=hW
 have hA:DataW.TrodAll enc Tryd.prog W 0 (fun _=>true) true Tryd.f3.params.toList args.toList ds p:=hA0
 rw [Tryd.params3] at hA hval
 rw [MakeChecks.laidMetH_plain _ _ _ (by kernel_rfl)] at hL
 have hT:=tabs_of hL
 have hD:=tabD_of hL
 obtain ⟨args⟩:=args
 obtain ⟨v0,vs,d0,ds0,p0,q0,ha,rfl,rfl,h0,hA⟩:=trodAll_cons hA
 obtain ⟨v1,vs1,d1,ds1,p1,q1,rfl,rfl,rfl,h1,hA⟩:=trodAll_cons hA
 obtain ⟨rfl,rfl,rfl⟩:=trodAll_nil hA
 simp only at ha
 subst ha
 obtain ⟨rfl,rfl⟩:=trodVars_none hV
 obtain ⟨n0,rfl,rfl,rfl,w0⟩:=open_int Tryd.underlying5 (hval 0 5 v0 rfl rfl) h0
 have hn0:0≤n0∧n0≤255:=by simpa [Lit.wf,IntKind.min,IntKind.max,IntKind.signed,IntKind.bits] using w0
 obtain ⟨n1,rfl,rfl,rfl,w1⟩:=open_int Tryd.underlying3 (hval 1 3 v1 rfl rfl) h1
 have hn1: -9223372036854775808≤n1∧n1≤9223372036854775807:=by simpa [Lit.wf,IntKind.min,IntKind.max,IntKind.signed,IntKind.bits] using w1
 refine (marksLaw_ n0 n1 W hT hD hn0 hn1).mono fun e W' ⟨he,ht⟩=> ?_
 subst he
 exact ⟨_,rfl,Ux.law_post laidOut (by kernel_rfl) (by kernel_rfl) Tryd.underlying4 rfl hW' rfl rfl rfl ht.below⟩
theorem jA:(Rows.tableMarksRow.inPlace==Tryd.prog.inPlace 3&&Rows.tableMarksRow.unfollowed==Tryd.prog.unfollowed 3)=true:=by kernel_rfl
theorem jB:(Rows.tableMarksRow.recurses==Tryd.prog.recurses 3&&Rows.tableMarksRow.named==Tryd.prog.varsNamed 3)=true:=by kernel_rfl
theorem jN:Tryd.pinned.checked.prog.funcNamed Rows.tableMarksRow.func=some 3:=by kernel_rfl
theorem jC:joinedFacts Tryd.prog 3 Tryd.f3 (OpenSpec.ofChange Rows.tableMarksSpec).bare Rows.tableMarksRow=true:=
 Ux.jf_of laidOut jmr jA jB (by rw [jpk];rfl) jsh jme (by rw [jlf];rfl) (by kernel_rfl)
theorem tableMarks_holds:Rows.TableMarksSaid:=
 OpenClaim.holds_of_cond 3 Tryd.f3 rfl rfl rfl rfl rfl rfl rfl ⟨rfl,rfl,rfl,rfl,rfl⟩ rfl rfl rfl rfl rfl jN Tryd.func3 jC
  (of_decide_eq_true (by kernel_rfl)) (by unfold Func.isWrapper;first|(rw [if_pos (by decide+kernel)];kernel_rfl)|(rw [if_neg (by decide+kernel)];exact ⟨rfl,rfl⟩))
  (fun os started H enc _ F=>by rw [OpenClaim.pre_eq_preRow];exact lifted os started H enc F)
theorem plainL (f:FuncId) (fn:Func) (hf:Tryd.pinned.checked.prog.funcNamed "umlaut/umlautlaw5.TableMarks"=some f) (hfn:Tryd.pinned.checked.prog.funcs[f]? =some fn):
 false=Tryd.pinned.checked.prog.looks []∧∀(j:Nat) t,fn.params[j]? =some t→Tryd.pinned.checked.prog.wantsStandIn t=false:=by
 obtain rfl:f=3:=Option.some.inj ((show Tryd.prog.funcNamed "umlaut/umlautlaw5.TableMarks"=some 3 by kernel_rfl).symm.trans hf)|>.symm
 obtain rfl:fn=Tryd.f3:=(Option.some.inj (Tryd.func3.symm.trans hfn)).symm
 refine ⟨by kernel_rfl,fun j t ht=> ?_⟩
 rw [Tryd.params3] at ht
 have hm:t∈[5,3]:=by simpa using Array.mem_of_getElem? ht
 have hall:([5,3].all fun u=> !Tryd.prog.wantsStandIn u)=true:=by kernel_rfl
 exact (show Tryd.prog.wantsStandIn t=false by simpa using List.all_eq_true.1 hall t hm)
theorem tableMarksCard_proved:Rows.TableMarksCardSaid:=
 Claim7.holds_tied_plain_at .later [] _ _ _ _ tableMarks_holds (fun _ h=>by cases h) (by kernel_rfl) (fun _ h=>by cases h) tableMarks_row_tie rfl ⟨rfl,rfl⟩ (by kernel_rfl) rfl plainL (by kernel_rfl)
#print axioms tableMarksCard_proved
end Go.Proofs.YtclffhpdekepkaaDoor
