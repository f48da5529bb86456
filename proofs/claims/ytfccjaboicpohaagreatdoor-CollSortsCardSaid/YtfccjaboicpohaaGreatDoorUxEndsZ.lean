/- A part of the proof that the statement holds for every input that it names. No other condition. -/
import Derived.Deep.Slices
import Derived.Deep.Fields
import Derived.ProofKit
import Derived.WalkKit
import Derived.OpenShut
import Derived.Stop.Joined
set_option linter.unusedVariables false
set_option linter.unusedSimpArgs false
namespace Go.Ux
open Go Go.RowKit Go.ChangeShapes Go.WideShapes Go.Deep
section
variable {H:Type} {enc:TypeId×Value→H} {P:Program} {W:World} {b0 base:Nat} {r:Reach} {spare:Nat→Bool} {held:Bool} {v:Value} {d:DataW H} {p:List MemPlace}
theorem open_row {t e:TypeId} (ht:P.underlying t=some (.slice e)) (hv:Value.okWide P W r b0 t v) (h:DataW.Trod enc P W base spare held t v d p):
 ∃(a:Option Addr) (len c:Nat),v= .slice a len c∧len≤maxLen∧∀i,i<len→∃ad cs n y,a=some ad∧W.cells? base (ad.add (i*P.cellsOf e)) (P.cellsOf e)=some cs∧DataW.trod enc P W base spare held n e cs=some y:=by
 obtain ⟨a0,len,cap,rfl⟩:=okWide_slice ht hv
 obtain ⟨fuel,hf⟩:=h
 rcases open_slice ht hf with ⟨hcs,_⟩|⟨a,len',cap',m,n,D,Pl,hcs,_,hl,hm,hmm,_,hi⟩
 ·simp [Value.cells] at hcs
  obtain ⟨rfl,rfl,rfl⟩:=hcs
  exact ⟨none,0,0,rfl,Nat.zero_le _,fun i h=>by omega⟩
 ·simp [Value.cells] at hcs
  obtain ⟨rfl,rfl,rfl⟩:=hcs
  refine ⟨some a,len,cap,rfl,by omega,fun i h=> ?_⟩
  obtain ⟨cs,h1,h2⟩:=hi i (by rw [hmm];split<;>omega)
  exact ⟨a,cs,n,_,rfl,h1,h2⟩
theorem cells_at {ad:Addr} {n:Nat} {cs:List Value} (h:W.cells? base ad n=some cs):cs.length=n∧∀j,j<n→W.cell? (ad.add j)=cs[j]? :=by
 obtain ⟨_,h1,h2⟩:=World.cells?_some h
 exact ⟨h1,h2⟩
theorem plain_addr {ad:Addr} {u:Value} (h:W.cell? (ad.add 0)=some u): ∃b f,ad=⟨b,f,none⟩:=by
 obtain ⟨b,off,spot⟩:=ad
 have hspot:spot=none:=by simpa [Addr.add] using World.cell?_spot h
 subst hspot
 exact ⟨b,off,rfl⟩
theorem plain_row {ad:Addr} {m:Nat} {cs:List Value} (h:W.cells? base (ad.add (0*(m+1))) (m+1)=some cs): ∃b f,ad=⟨b,f,none⟩:=by
 obtain ⟨hl,hc⟩:=cells_at h
 have h0:=hc 0 (by omega)
 rw [Go.Deep.add_add,Nat.zero_mul] at h0
 obtain ⟨c,l,rfl⟩: ∃c l,cs=c::l:=by
  cases cs with
  |nil=>simp at hl
  |cons c l=>exact ⟨c,l,rfl⟩
 exact plain_addr h0
end
end Go.Ux
namespace Go.Ux
open Go Go.RowKit Go.ChangeShapes Go.WideShapes Go.Deep
def SCap (v:Value):Prop:=v= .slice none 0 0∨∃(a:Addr) (n c:Nat),v= .slice (some a) n c∧n≤c∧c≤maxLen
theorem open_cap {H:Type} {enc:TypeId×Value→H} {P:Program} {W:World} {b0 base:Nat} {r:Reach} {spare:Nat→Bool} {held:Bool} {v:Value} {d:DataW H} {p:List MemPlace}
 {t e:TypeId} (ht:P.underlying t=some (.slice e)) (hv:Value.okWide P W r b0 t v) (h:DataW.Trod enc P W base spare held t v d p):SCap v:=by
 obtain ⟨a0,len,cap,rfl⟩:=okWide_slice ht hv
 obtain ⟨fuel,hf⟩:=h
 rcases open_slice ht hf with ⟨hcs,_⟩|⟨a,len',cap',m,n,D,Pl,hcs,_,hl,hm,hmm,_,hi⟩
 ·simp [Value.cells] at hcs
  obtain ⟨rfl,rfl,rfl⟩:=hcs
  exact .inl rfl
 ·simp [Value.cells] at hcs
  obtain ⟨rfl,rfl,rfl⟩:=hcs
  exact .inr ⟨a,len,cap,rfl,hl,hm⟩
end Go.Ux
namespace Go.Ux
open Go Go.RowKit Go.ChangeShapes Go.WideShapes Go.ChangeAt
section
variable {H:Type} {enc:TypeId×Value→H} {P:Program}
def bears (P:Program) (ts:List TypeId):Bool:=ts.all fun t=>P.readableRec t&&decide (t<P.types.size)
theorem trodAll_stays (hl:laidOutB P=true) {W W':World} {sp:Nat→Bool}: ∀{ts:List TypeId} {vs:List Value} {ds:List (DataW H)} {ps:List MemPlace},bears P ts=true→
 DataW.TrodAll enc P W 0 (fun _=>true) true ts vs ds ps→(∀p∈ps,W.sameAt W' p)→(∀p∈ps,sp p.block=true)→DataW.TrodAll enc P W' 0 sp true ts vs ds ps
 | [],_,_,_,_,h,_,_=>by
   obtain ⟨rfl,rfl,rfl⟩:=trodAll_nil h
   exact trodAll_mk0
 |t::ts,_,_,_,hb,h,hs,hp=>by
  obtain ⟨v,vs,d,ds,p,q,rfl,rfl,rfl,h0,h1⟩:=trodAll_cons h
  simp only [bears,List.all_cons,Bool.and_eq_true,decide_eq_true_eq] at hb
  exact trodAll_cons_mk (WideElems.Trod_stays hl hb.1.1 hb.1.2 h0 (fun x hx=>hs x (by simp [hx])) (fun x hx=>hp x (by simp [hx])))
   (trodAll_stays hl (by simpa [bears] using hb.2) h1 (fun x hx=>hs x (by simp [hx])) (fun x hx=>hp x (by simp [hx])))
theorem law_post {f:Func} {s:ChangeSpec} {W W':World} {args:Array Value} {ds gs:List (DataW H)} {before:List MemPlace} {bt:TypeId}
 (hl:laidOutB P=true) (hb:bears P f.params.toList=true) (hrt:f.resultTypes= #[bt]) (hbt:P.underlying bt=some .bool) (hv:s.vars= [])
 (hW:DataW.Whole enc P f.params.toList s.vars false W args.toList ds gs before)
 (hres:(s.fn H (ds++gs)).results= [.lit (.bool true)]) (hargs:(s.fn H (ds++gs)).args=ds) (hvars:(s.fn H (ds++gs)).vars= [])
 (hbel:Below W.heap.size W W'):s.post enc P f false true false false W args (.bool true) W':=by
 have hW':=hW
 have hlt: ∀p∈before,p.block<W.heap.size:=fun p hp=>by simpa using hW'.lt p hp
 obtain ⟨p,q,hA,hV,rfl,hfz,hnd⟩:=hW
 rw [hv] at hV
 obtain ⟨rfl,rfl⟩:=trodVars_none hV
 refine ⟨ds,[],p++ [],[],p,[],hW',?_,?_,?_,World.keptBut_mono (fun x hx=>⟨hx,.inr (.inl (by simpa using hx))⟩) (hbel.frame _),fun h=>by cases h⟩
 ·rw [hres,hrt]
  exact trodAll_mk1 (shut_bool hbt _)
 ·rw [hargs]
  exact trodAll_stays hl hb hA (fun x hx=>hbel.same (hlt x (by simpa using hx))) (fun x hx=>by simpa using hlt x (by simpa using hx))
 ·rw [hvars,hv]
  exact hV
end
end Go.Ux
namespace Go.Ux
open Go
theorem jf_of {P:Program} {f:FuncId} {fn:Func} {s:ChangeSpec} {c:OpenClaim} (h1:laidOutB P=true) (h2:mapsRowed P=true)
 (h9:(c.inPlace==P.inPlace f&&c.unfollowed==P.unfollowed f)=true) (h11:(c.recurses==P.recurses f&&c.named==P.varsNamed f)=true)
 (h22:(c.plainKeys==P.plainKeys)=true) (h24:P.stopsHeard=true) (h25:P.mayEnter=true) (h26:(c.lifted==P.liftsFinal)=true)
 (hr:(c.wf (OpenSpec.ofChange s)&&fn.params.all (P.readableRec ·)&&namedTie P c.named s.vars&&(c.stops== [])&&(P.stops== [])&&(c.knobs== [])&&(P.stopKnobs== [])&&
   (c.maps==(fn.params.toList++s.plain.varTypes P).any (P.mapsRec ·))&&(c.ifaces==(fn.params.toList++s.plain.varTypes P).any (P.ifacesRec ·))&&(c.mapsOut==P.mapsAmong fn.resultTypes.toList)&&
   (c.loops==(fn.params.toList++s.plain.varTypes P).any (P.loopsFrom ·))&&(c.wideKeys==(fn.params.toList++s.plain.varTypes P++fn.resultTypes.toList).any (P.wideKeysFrom ·))&&
   s.vars.all (P.varReadable ·)&&fn.resultTypes.all (fun t=>P.readableRec t&&decide (t<P.types.size))&&(c.ifacesOut==fn.resultTypes.toList.any (P.ifacesRec ·))&&(c.loopsOut==fn.resultTypes.toList.any (P.loopsFrom ·))&&c.shortTexts.isNone&&(P.make==some c.make)&&(c.kinds==(if c.domain.isEmpty then [] else fn.params.toList.map fun t=>match P.underlying t with|some (.int k)=>some k|_=>none))&&(c.pinned==c.pinnedBy)&&
   (c.veiled==(fn.params.toList++s.plain.varTypes P++fn.resultTypes.toList).any (P.veiledRec ·))&&c.veiledFits P fn.params.toList (fn.params.toList++s.plain.varTypes P++fn.resultTypes.toList))=true):joinedFacts P f fn s c=true:=by
 rw [Bool.and_eq_true] at h9 h11
 simp only [Bool.and_eq_true] at hr
 obtain ⟨⟨⟨⟨⟨⟨⟨⟨⟨⟨⟨⟨⟨⟨⟨⟨⟨⟨⟨⟨⟨r1,r2⟩,r3⟩,r4⟩,r5⟩,r6⟩,r7⟩,r8⟩,r9⟩,r10⟩,r11⟩,r12⟩,r13⟩,r14⟩,r15⟩,r16⟩,r17⟩,r18⟩,r19⟩,r20⟩,r21⟩,r22⟩:=hr
 unfold joinedFacts
 rw [r1,h1,h2,r2,r3,r4,r5,r6,r7,h9.1,h9.2,h11.1,h11.2,r8,r9,r10,r11,r12,r13,r14,r15,r16,h22,r17,h24,h25,h26,r18]
 simp only [Bool.true_and,Bool.and_true,Bool.and_eq_true]
 exact ⟨⟨⟨r19,r20⟩,r21⟩,r22⟩
end Go.Ux
