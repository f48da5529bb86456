/- A part of the proof that the statement holds for every input that it names. No other condition. -/
import Derived.Test.YtfccjaboicpohaaGreatDoorKordsZ
import Derived.Test.YtfccjaboicpohaaGreatDoorJpZ
import Derived.Test.YtfccjaboicpohaaGreatDoorTie
import Derived.Test.YtfccjaboicpohaaGreatDoorCards
import Derived.Test.YtfccjaboicpohaaGreatDoorRows
set_option linter.unusedVariables false
set_option linter.unusedSimpArgs false
namespace Go.Proofs.YtfccjaboicpohaaGreatDoor
open Go.RowKit
open Go.ChangeShapes Go.WideShapes Go.ChangeAt Go.Lib
theorem tabs_of {W:World} (h:laidMet Tryz.prog Rows.kencOrdersRow.laid W):Tabs W:=
 utf8Tabs_of_readsT (U8Types.of260 Tryz.lays260) u8x (first_eq▸Lib.laidMet.reads h (.tail _ (.head _))) (acc_eq▸Lib.laidMet.reads h (.head _))
noncomputable def laidW (os:Os):World:=World.laidAll Tryz.prog os Rows.kencOrdersRow.laid
def argZ:Array Value:= #[.slice none 0 0,.slice none 0 0,.slice none 0 0,.int .i64 0,.int .i64 0]
theorem readsZ (os:Os) {H:Type} (enc:TypeId×Value→H): ∃places,DataW.whole enc Tryz.prog ((laidW os).forCall (fun _ _=>0) ⟨#[],argZ,[]⟩).memory Tryz.f7.params.toList Rows.kencOrdersSpec.vars false argZ.toList 8=some ([.nil,.nil,.nil,.lit (.int .i64 0),.lit (.int .i64 0)],[],places):=
 ⟨[],by kernel_rfl⟩
set_option maxRecDepth 100000 in
theorem lifted (os:Os) (started:os.Started) (H:Type) (enc:TypeId×Value→H) (F:Stop.Interp):
 ReturnsInHanded {} Tryz.checked os 7 .any ((OpenSpec.ofChange Rows.kencOrdersSpec).preRow enc Tryz.prog Tryz.f7 Rows.kencOrdersRow.domain false Rows.kencOrdersRow.laid) (((OpenSpec.ofChange Rows.kencOrdersSpec).at F).post enc Tryz.prog Tryz.f7 false true false false):=by
 obtain ⟨places,hx⟩:=readsZ os enc
 have hok:Input.okWideB Tryz.prog ((laidW os).forCall (fun _ _=>0) ⟨#[],argZ,[]⟩) 7 ⟨#[],argZ,[]⟩=true:=by kernel_rfl
 refine returnsInHanded_of_row (C:=Tryz.checked) (s:=OpenSpec.ofChange Rows.kencOrdersSpec) own started (by kernel_rfl) Tryz.func7
  ⟨laidW os,fun _ _=>0,⟨#[],argZ,[]⟩,World.laidAll_os _ _ _,World.shaped_of_ZipB (by kernel_rfl) (by kernel_rfl),(Input.okWide_of_okWideB (base:=0) hok).1,(Input.okWide_of_okWideB hok).2,
    OpenSpec.preRow_of_cond 8 hx (by kernel_rfl) (fun k hk=>by cases hk) (by kernel_rfl) (by rw [MakeChecks.laidMetH_plain _ _ _ (by kernel_rfl)];exact laidMet_laidAll _ (by kernel_rfl) (by kernel_rfl)),
    by
     simp only [Assume.holds]
     exact ⟨by simp,by simp,(fun h=>by first|exact Modest.zero|cases h),by simp,by simp⟩⟩ ?_
 intro W base args ds gs before hval0 hW _ _ hWt hL hSh _
 have hval: ∀(j:Nat) t v,Tryz.f7.params[j]? =some t→args[j]? =some v→Value.okWide Tryz.prog W .any base t v:=hval0
 have hW':=hW
 obtain ⟨p,q,hA0,hV,rfl,_,_⟩:=hW
 have hA:DataW.TrodAll enc Tryz.prog W 0 (fun _=>true) true Tryz.f7.params.toList args.toList ds p:=hA0
 rw [Tryz.params7] at hA hval
 rw [MakeChecks.laidMetH_plain _ _ _ (by kernel_rfl)] at hL
 have hT:=tabs_of hL
 obtain ⟨args⟩:=args
 obtain ⟨v0,vs,d0,ds0,p0,q0,ha,rfl,rfl,h0,hA⟩:=trodAll_cons hA
 obtain ⟨v1,vs1,d1,ds1,p1,q1,rfl,rfl,rfl,h1,hA⟩:=trodAll_cons hA
 obtain ⟨v2,vs2,d2,ds2,p2,q2,rfl,rfl,rfl,h2,hA⟩:=trodAll_cons hA
 obtain ⟨v3,vs3,d3,ds3,p3,q3,rfl,rfl,rfl,h3,hA⟩:=trodAll_cons hA
 obtain ⟨v4,vs4,d4,ds4,p4,q4,rfl,rfl,rfl,h4,hA⟩:=trodAll_cons hA
 obtain ⟨rfl,rfl,rfl⟩:=trodAll_nil hA
 simp only at ha
 subst ha
 obtain ⟨rfl,rfl⟩:=trodVars_none hV
 obtain ⟨xa0,xc0,l0,hx0⟩:=Ux.open_vals Tryz.underlying75 Tryz.underlying84 (by kernel_rfl) (by kernel_rfl) Tryz.underlying3 Tryz.underlying2 Tryz.underlying9 (hval 0 75 v0 rfl rfl) h0
 have hl0:VView W v0 l0:=⟨xa0,xc0,hx0⟩
 have hs0:Ux.SCap v0:=Ux.open_cap Tryz.underlying75 (hval 0 75 v0 rfl rfl) h0
 obtain ⟨xa1,xc1,l1,hx1⟩:=Ux.open_vals Tryz.underlying75 Tryz.underlying84 (by kernel_rfl) (by kernel_rfl) Tryz.underlying3 Tryz.underlying2 Tryz.underlying9 (hval 1 75 v1 rfl rfl) h1
 have hl1:VView W v1 l1:=⟨xa1,xc1,hx1⟩
 have hs1:Ux.SCap v1:=Ux.open_cap Tryz.underlying75 (hval 1 75 v1 rfl rfl) h1
 obtain ⟨xa2,xc2,l2,hx2⟩:=Ux.open_parts Tryz.underlying76 Tryz.underlying155 (by kernel_rfl) (by kernel_rfl) Tryz.underlying3 Tryz.underlying3 Tryz.underlying4 (hval 2 76 v2 rfl rfl) h2
 have hl2:QView W v2 l2:=⟨xa2,xc2,hx2⟩
 obtain ⟨n3,rfl,rfl,rfl,w3⟩:=open_int Tryz.underlying3 (hval 3 3 v3 rfl rfl) h3
 have hn3: -9223372036854775808≤n3∧n3≤9223372036854775807:=by simpa [Lit.wf,IntKind.min,IntKind.max,IntKind.signed,IntKind.bits] using w3
 obtain ⟨n4,rfl,rfl,rfl,w4⟩:=open_int Tryz.underlying3 (hval 4 3 v4 rfl rfl) h4
 have hn4: -9223372036854775808≤n4∧n4≤9223372036854775807:=by simpa [Lit.wf,IntKind.min,IntKind.max,IntKind.signed,IntKind.bits] using w4
 obtain ⟨m,hm⟩: ∃m,W.cell? ⟨3,0,none⟩=some (.int .i64 m):=Tryz.laysM219.s1_3 W hSh
 refine (kordsEnd_ v0 l0 v1 l1 v2 l2 n3 n4 m W ⟨hs0,hl0⟩ ⟨hs1,hl1⟩ hl2 hT hm hn3 hn4).mono fun e W' ⟨he,ht⟩=> ?_
 subst he
 exact ⟨_,rfl,Ux.law_post laidOut (by kernel_rfl) (by kernel_rfl) Tryz.underlying4 rfl hW' rfl rfl rfl ht.below⟩
theorem jA:(Rows.kencOrdersRow.inPlace==Tryz.prog.inPlace 7&&Rows.kencOrdersRow.unfollowed==Tryz.prog.unfollowed 7)=true:=by kernel_rfl
theorem jB:(Rows.kencOrdersRow.recurses==Tryz.prog.recurses 7&&Rows.kencOrdersRow.named==Tryz.prog.varsNamed 7)=true:=by kernel_rfl
theorem jN:Tryz.pinned.checked.prog.funcNamed Rows.kencOrdersRow.func=some 7:=by kernel_rfl
theorem jC:joinedFacts Tryz.prog 7 Tryz.f7 (OpenSpec.ofChange Rows.kencOrdersSpec).bare Rows.kencOrdersRow=true:=
 Ux.jf_of laidOut jmr jA jB (by rw [jpk];rfl) jsh jme (by rw [jlf];rfl) (by kernel_rfl)
theorem kencOrders_holds:Rows.KencOrdersSaid:=
 OpenClaim.holds_of_cond 7 Tryz.f7 rfl rfl rfl rfl rfl rfl rfl ⟨rfl,rfl,rfl,rfl,rfl⟩ rfl rfl rfl rfl rfl jN Tryz.func7 jC
  (of_decide_eq_true (by kernel_rfl)) (by unfold Func.isWrapper;first|(rw [if_pos (by decide+kernel)];kernel_rfl)|(rw [if_neg (by decide+kernel)];exact ⟨rfl,rfl⟩))
  (fun os started H enc _ F=>by rw [OpenClaim.pre_eq_preRow];exact lifted os started H enc F)
theorem plainL (f:FuncId) (fn:Func) (hf:Tryz.pinned.checked.prog.funcNamed "umlaut/umlautlaw14.KencOrders"=some f) (hfn:Tryz.pinned.checked.prog.funcs[f]? =some fn):
 true=Tryz.pinned.checked.prog.looks []∧∀(j:Nat) t,fn.params[j]? =some t→Tryz.pinned.checked.prog.wantsStandIn t=false:=by
 obtain rfl:f=7:=Option.some.inj ((show Tryz.prog.funcNamed "umlaut/umlautlaw14.KencOrders"=some 7 by kernel_rfl).symm.trans hf)|>.symm
 obtain rfl:fn=Tryz.f7:=(Option.some.inj (Tryz.func7.symm.trans hfn)).symm
 refine ⟨by kernel_rfl,fun j t ht=> ?_⟩
 rw [Tryz.params7] at ht
 have hm:t∈[75,75,76,3,3]:=by simpa using Array.mem_of_getElem? ht
 have hall:([75,75,76,3,3].all fun u=> !Tryz.prog.wantsStandIn u)=true:=by kernel_rfl
 exact (show Tryz.prog.wantsStandIn t=false by simpa using List.all_eq_true.1 hall t hm)
theorem kencOrdersCard_proved:Rows.KencOrdersCardSaid:=
 Claim7.holds_tied_plain_at .later [] _ _ _ _ kencOrders_holds (fun _ h=>by cases h) (by kernel_rfl) (fun _ h=>by cases h) kencOrders_row_tie rfl ⟨rfl,rfl⟩ (by kernel_rfl) rfl plainL (by kernel_rfl)
#print axioms kencOrdersCard_proved
end Go.Proofs.YtfccjaboicpohaaGreatDoor
