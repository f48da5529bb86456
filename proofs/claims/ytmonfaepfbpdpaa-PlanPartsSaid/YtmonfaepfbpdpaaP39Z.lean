/- A part of the proof that the statement holds for every input that it names. No other condition. -/
import Derived.Test.YtmonfaepfbpdpaaUxEndsZ
import Derived.Test.YtmonfaepfbpdpaaP38Z
import Derived.Test.YtmonfaepfbpdpaaRows
set_option linter.unusedVariables false
set_option linter.unusedSimpArgs false
namespace Go.Proofs.Ytmonfaepfbpdpaa
open Go.RowKit
open Ux (i64B ND NRows nodV Nod)
open Go.ChangeShapes Go.WideShapes Go.ChangeAt
theorem own:ownKnob Try.prog.godebug=none:=by kernel_rfl
theorem laidOut:laidOutB Try.prog=true:=by kernel_rfl
section
variable {H:Type} {enc:TypeId×Value→H} {W:World}
set_option maxRecDepth 100000 in
theorem open_tree {base b0:Nat} {r:Reach} {spare:Nat→Bool} {held:Bool} {v:Value} {d:DataW H} {p:List MemPlace} (hv:Value.okWide Try.prog W r b0 24 v) (h:DataW.Trod enc Try.prog W base spare held 24 v d p) (hw: ∀z∈DataW.weights Try.prog 24 d,z≤reachBytes):
 ∃x u,v=nodV x u∧ND W (fun g=>g<W.heap.size) x (nodV x u):=by
 obtain ⟨cs,rfl,hsz⟩:=okWide_struct Try.underlying24 hv
 obtain ⟨fuel,hf⟩:=h
 obtain ⟨x,u,hc,hn⟩:=Ux.trod_node (P:=Try.prog) Try.underlying24 (by kernel_rfl) (by kernel_rfl) (by kernel_rfl) Try.underlying3 Try.underlying3 Try.underlying9 Try.underlying9 Try.underlying2 Try.underlying22 rfl d fuel _ p hf hw
 refine ⟨x,u,?_,hn⟩
 unfold nodV
 congr 1
 apply Array.ext'
 exact hc
end
set_option maxRecDepth 100000 in
theorem lifted (os:Os) (started:os.Started) (H:Type) (enc:TypeId×Value→H):
 ReturnsInHanded {} Try.checked os 3 .any (Rows.planPartsSpec.pre6 enc Try.prog Try.f3 Rows.planPartsRow.domain false) (Rows.planPartsSpec.post enc Try.prog Try.f3 false true false false):=by
 refine returnsInHanded_of_change_sized (C:=Try.checked) own started (by kernel_rfl) Try.func3
  (ChangeSpec.witness6 (enc:=enc) (C:=Try.checked) false ⟨#[],#[.agg #[.int .i64 0,.int .i64 0,.string ⟨#[]⟩,.string ⟨#[]⟩,.int .i64 0,.slice none 0 0]],[]⟩ 8 (by kernel_rfl) (by kernel_rfl) (by kernel_rfl) (by kernel_rfl)) ?_
 intro W base args ds gs before hval0 hW _ hWt _
 have hval: ∀(j:Nat) t v,Try.f3.params[j]? =some t→args[j]? =some v→Value.okWide Try.prog W .any base t v:=hval0
 have hW':=hW
 obtain ⟨p,q,hA0,hV,rfl,hfz,hnd⟩:=hW
 have hA:DataW.TrodAll enc Try.prog W 0 (fun _=>true) true Try.f3.params.toList args.toList ds p:=hA0
 rw [Try.params3] at hA hval
 obtain ⟨args⟩:=args
 obtain ⟨v0,vs,d0,ds0,p0,q0,ha,rfl,rfl,h0,hA⟩:=trodAll_cons hA
 obtain ⟨rfl,rfl,rfl⟩:=trodAll_nil hA
 simp only at ha
 subst ha
 obtain ⟨rfl,rfl⟩:=trodVars_none hV
 have hw0: ∀z∈DataW.weights Try.prog 24 d0,z≤reachBytes:=fun z hz=>by
  have hb2:=hWt
  rw [Try.params3] at hb2
  have hz:z∈DataW.weights Try.checked.prog 24 d0:=hz
  exact of_decide_eq_true (List.all_eq_true.1 hb2 z (by simp [DataW.weightsEach,hz]))
 obtain ⟨x,u,rfl,hn⟩:=open_tree (hval 0 24 v0 rfl rfl) h0 hw0
 clear hA0 hval0
 refine (lawParts_ x _ W u hn).mono fun e W' ⟨he,ht⟩=> ?_
 subst he
 exact ⟨_,rfl,Ux.law_post laidOut (by kernel_rfl) (by kernel_rfl) Try.underlying4 rfl hW' rfl rfl rfl ht.below⟩
theorem planParts_proved:Rows.PlanPartsSaid:=
 OpenClaim.holds_of_wide 3 Try.f3 rfl rfl rfl rfl rfl rfl rfl ⟨rfl,rfl,rfl,rfl,rfl⟩ rfl rfl rfl rfl rfl (by kernel_rfl) Try.func3 (by kernel_rfl)
  (of_decide_eq_true (by kernel_rfl)) (by unfold Func.isWrapper;first|(rw [if_pos (by decide+kernel)];kernel_rfl)|(rw [if_neg (by decide+kernel)];exact ⟨rfl,rfl⟩))
  (fun os started H enc _=>lifted os started H enc)
#print axioms planParts_proved
end Go.Proofs.Ytmonfaepfbpdpaa
