/- A part of the proof that the statement holds for every input that it names. No other condition. -/
import Derived.Test.YtfccjaboicpohaaGreatDoorSortseZ
import Derived.Test.YtfccjaboicpohaaGreatDoorJpZ
import Derived.Test.YtfccjaboicpohaaGreatDoorTie
import Derived.Test.YtfccjaboicpohaaGreatDoorCards
import Derived.Test.YtfccjaboicpohaaGreatDoorRows
set_option linter.unusedVariables false
set_option linter.unusedSimpArgs false
namespace Go.Proofs.YtfccjaboicpohaaGreatDoor
open Go.RowKit
open Go.ChangeShapes Go.WideShapes Go.ChangeAt Go.Lib
theorem tabs_of {W:World} (h:laidMet Tryz.prog Rows.collSortsRow.laid W):Tabs W:=
 utf8Tabs_of_readsT (U8Types.of260 Tryz.lays260) u8x (first_eq▸Lib.laidMet.reads h (.tail _ (.head _))) (acc_eq▸Lib.laidMet.reads h (.head _))
noncomputable def laidW (os:Os):World:=World.laidAll Tryz.prog os Rows.collSortsRow.laid
def argZ:Array Value:= #[.int .i64 0,.int .i64 0,.bool false,.slice none 0 0]
theorem readsZ (os:Os) {H:Type} (enc:TypeId×Value→H): ∃places,DataW.whole enc Tryz.prog ((laidW os).forCall (fun _ _=>0) ⟨#[],argZ,[]⟩).memory Tryz.f6.params.toList Rows.collSortsSpec.vars false argZ.toList 8=some ([.lit (.int .i64 0),.lit (.int .i64 0),.lit (.bool false),.nil],[],places):=
 ⟨[],by kernel_rfl⟩
set_option maxRecDepth 100000 in
theorem lifted (os:Os) (started:os.Started) (H:Type) (enc:TypeId×Value→H) (F:Stop.Interp):
 ReturnsInHanded {} Tryz.checked os 6 .any ((OpenSpec.ofChange Rows.collSortsSpec).preRow enc Tryz.prog Tryz.f6 Rows.collSortsRow.domain false Rows.collSortsRow.laid) (((OpenSpec.ofChange Rows.collSortsSpec).at F).post enc Tryz.prog Tryz.f6 false true false false):=by
 obtain ⟨places,hx⟩:=readsZ os enc
 have hok:Input.okWideB Tryz.prog ((laidW os).forCall (fun _ _=>0) ⟨#[],argZ,[]⟩) 6 ⟨#[],argZ,[]⟩=true:=by kernel_rfl
 refine returnsInHanded_of_row (C:=Tryz.checked) (s:=OpenSpec.ofChange Rows.collSortsSpec) own started (by kernel_rfl) Tryz.func6
  ⟨laidW os,fun _ _=>0,⟨#[],argZ,[]⟩,World.laidAll_os _ _ _,World.shaped_of_ZipB (by kernel_rfl) (by kernel_rfl),(Input.okWide_of_okWideB (base:=0) hok).1,(Input.okWide_of_okWideB hok).2,
    OpenSpec.preRow_of_cond 8 hx (by kernel_rfl) (fun k hk=>by cases hk) (by kernel_rfl) (by rw [MakeChecks.laidMetH_plain _ _ _ (by kernel_rfl)];exact laidMet_laidAll _ (by kernel_rfl) (by kernel_rfl)),
    by
     simp only [Assume.holds]
     exact ⟨by simp,by simp,(fun h=>by first|exact Modest.zero|cases h),by simp,by simp⟩⟩ ?_
 intro W base args ds gs before hval0 hW _ _ hWt hL hSh _
 have hval: ∀(j:Nat) t v,Tryz.f6.params[j]? =some t→args[j]? =some v→Value.okWide Tryz.prog W .any base t v:=hval0
 have hW':=hW
 obtain ⟨p,q,hA0,hV,rfl,_,_⟩:=hW
 have hA:DataW.TrodAll enc Tryz.prog W 0 (fun _=>true) true Tryz.f6.params.toList args.toList ds p:=hA0
 rw [Tryz.params6] at hA hval
 rw [MakeChecks.laidMetH_plain _ _ _ (by kernel_rfl)] at hL
 have hT:=tabs_of hL
 obtain ⟨args⟩:=args
 obtain ⟨v0,vs,d0,ds0,p0,q0,ha,rfl,rfl,h0,hA⟩:=trodAll_cons hA
 obtain ⟨v1,vs1,d1,ds1,p1,q1,rfl,rfl,rfl,h1,hA⟩:=trodAll_cons hA
 obtain ⟨v2,vs2,d2,ds2,p2,q2,rfl,rfl,rfl,h2,hA⟩:=trodAll_cons hA
 obtain ⟨v3,vs3,d3,ds3,p3,q3,rfl,rfl,rfl,h3,hA⟩:=trodAll_cons hA
 obtain ⟨rfl,rfl,rfl⟩:=trodAll_nil hA
 simp only at ha
 subst ha
 obtain ⟨rfl,rfl⟩:=trodVars_none hV
 obtain ⟨n0,rfl,rfl,rfl,w0⟩:=open_int Tryz.underlying3 (hval 0 3 v0 rfl rfl) h0
 have hn0: -9223372036854775808≤n0∧n0≤9223372036854775807:=by simpa [Lit.wf,IntKind.min,IntKind.max,IntKind.signed,IntKind.bits] using w0
 obtain ⟨n1,rfl,rfl,rfl,w1⟩:=open_int Tryz.underlying3 (hval 1 3 v1 rfl rfl) h1
 have hn1: -9223372036854775808≤n1∧n1≤9223372036854775807:=by simpa [Lit.wf,IntKind.min,IntKind.max,IntKind.signed,IntKind.bits] using w1
 obtain ⟨b2,rfl,rfl,rfl⟩:=Go.RowKit.open_bool Tryz.underlying4 (hval 2 4 v2 rfl rfl) h2
 obtain ⟨l3,hl3⟩:=Ux.open_texts Tryz.underlying42 Tryz.underlying9 (by kernel_rfl) (hval 3 42 v3 rfl rfl) h3
 have hs3:Ux.SCap v3:=Ux.open_cap Tryz.underlying42 (hval 3 42 v3 rfl rfl) h3
 refine (sortsEnd_ n0 n1 b2 v3 l3 W ⟨hs3,hl3⟩ hT).mono fun e W' ⟨he,ht⟩=> ?_
 subst he
 exact ⟨_,rfl,Ux.law_post laidOut (by kernel_rfl) (by kernel_rfl) Tryz.underlying4 rfl hW' rfl rfl rfl ht.below⟩
theorem jA:(Rows.collSortsRow.inPlace==Tryz.prog.inPlace 6&&Rows.collSortsRow.unfollowed==Tryz.prog.unfollowed 6)=true:=by kernel_rfl
theorem jB:(Rows.collSortsRow.recurses==Tryz.prog.recurses 6&&Rows.collSortsRow.named==Tryz.prog.varsNamed 6)=true:=by kernel_rfl
theorem jN:Tryz.pinned.checked.prog.funcNamed Rows.collSortsRow.func=some 6:=by kernel_rfl
theorem jC:joinedFacts Tryz.prog 6 Tryz.f6 (OpenSpec.ofChange Rows.collSortsSpec).bare Rows.collSortsRow=true:=
 Ux.jf_of laidOut jmr jA jB (by rw [jpk];rfl) jsh jme (by rw [jlf];rfl) (by kernel_rfl)
theorem collSorts_holds:Rows.CollSortsSaid:=
 OpenClaim.holds_of_cond 6 Tryz.f6 rfl rfl rfl rfl rfl rfl rfl ⟨rfl,rfl,rfl,rfl,rfl⟩ rfl rfl rfl rfl rfl jN Tryz.func6 jC
  (of_decide_eq_true (by kernel_rfl)) (by unfold Func.isWrapper;first|(rw [if_pos (by decide+kernel)];kernel_rfl)|(rw [if_neg (by decide+kernel)];exact ⟨rfl,rfl⟩))
  (fun os started H enc _ F=>by rw [OpenClaim.pre_eq_preRow];exact lifted os started H enc F)
theorem plainL (f:FuncId) (fn:Func) (hf:Tryz.pinned.checked.prog.funcNamed "umlaut/umlautlaw8.CollSorts"=some f) (hfn:Tryz.pinned.checked.prog.funcs[f]? =some fn):
 true=Tryz.pinned.checked.prog.looks []∧∀(j:Nat) t,fn.params[j]? =some t→Tryz.pinned.checked.prog.wantsStandIn t=false:=by
 obtain rfl:f=6:=Option.some.inj ((show Tryz.prog.funcNamed "umlaut/umlautlaw8.CollSorts"=some 6 by kernel_rfl).symm.trans hf)|>.symm
 obtain rfl:fn=Tryz.f6:=(Option.some.inj (Tryz.func6.symm.trans hfn)).symm
 refine ⟨by kernel_rfl,fun j t ht=> ?_⟩
 rw [Tryz.params6] at ht
 have hm:t∈[3,3,4,42]:=by simpa using Array.mem_of_getElem? ht
 have hall:([3,3,4,42].all fun u=> !Tryz.prog.wantsStandIn u)=true:=by kernel_rfl
 exact (show Tryz.prog.wantsStandIn t=false by simpa using List.all_eq_true.1 hall t hm)
theorem collSortsCard_proved:Rows.CollSortsCardSaid:=
 Claim7.holds_tied_plain_at .later [] _ _ _ _ collSorts_holds (fun _ h=>by cases h) (by kernel_rfl) (fun _ h=>by cases h) collSorts_row_tie rfl ⟨rfl,rfl⟩ (by kernel_rfl) rfl plainL (by kernel_rfl)
#print axioms collSortsCard_proved
end Go.Proofs.YtfccjaboicpohaaGreatDoor
