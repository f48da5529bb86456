/- A part of the proof that the statement holds for every input that it names. No other condition. -/
import Derived.Deep.Slices
import Derived.Deep.Fields
import Derived.ProofKit
import Derived.WalkKit
import Derived.OpenShut
import Derived.Stop.Joined
set_option linter.unusedVariables false
set_option linter.unusedSimpArgs false
namespace Go.Ux
open Go Go.RowKit Go.ChangeShapes Go.WideShapes Go.Deep
section
variable {H:Type} {enc:TypeId×Value→H} {P:Program} {W:World} {b0 base:Nat} {r:Reach} {spare:Nat→Bool} {held:Bool} {v:Value} {d:DataW H} {p:List MemPlace}
theorem cells_at {ad:Addr} {n:Nat} {cs:List Value} (h:W.cells? base ad n=some cs):cs.length=n∧∀j,j<n→W.cell? (ad.add j)=cs[j]? :=by
 obtain ⟨_,h1,h2⟩:=World.cells?_some h
 exact ⟨h1,h2⟩
theorem plain_addr {ad:Addr} {u:Value} (h:W.cell? (ad.add 0)=some u): ∃b f,ad=⟨b,f,none⟩:=by
 obtain ⟨b,off,spot⟩:=ad
 have hspot:spot=none:=by simpa [Addr.add] using World.cell?_spot h
 subst hspot
 exact ⟨b,off,rfl⟩
theorem plain_row {ad:Addr} {m:Nat} {cs:List Value} (h:W.cells? base (ad.add (0*(m+1))) (m+1)=some cs): ∃b f,ad=⟨b,f,none⟩:=by
 obtain ⟨hl,hc⟩:=cells_at h
 have h0:=hc 0 (by omega)
 rw [Go.Deep.add_add,Nat.zero_mul] at h0
 obtain ⟨c,l,rfl⟩: ∃c l,cs=c::l:=by
  cases cs with
  |nil=>simp at hl
  |cons c l=>exact ⟨c,l,rfl⟩
 exact plain_addr h0
end
end Go.Ux
namespace Go.Ux
open Go Go.RowKit Go.ChangeShapes Go.WideShapes Go.Deep
section
variable {H:Type} {enc:TypeId×Value→H} {P:Program} {W:World} {b0 base:Nat} {r:Reach} {spare:Nat→Bool} {held:Bool} {v:Value} {d:DataW H} {p:List MemPlace}
def NView (ik:IntKind) (w:World) (v:Value) (s:List Int):Prop:= ∃a c,v= .slice a s.length c∧s.length≤maxLen∧(∀(j:Nat) (x:Int),s[j]? =some x→∃g o,a=some ⟨g,o,none⟩∧g<w.heap.size∧w.cell? ⟨g,o+j,none⟩=some (.int ik x))∧∀x∈s,ik.min≤x∧x≤ik.max
theorem trod_nums {t e:TypeId} {ik:IntKind} (ht:P.underlying t=some (.slice e)) (he:P.underlying e=some (.int ik)) (hc:P.cellsOf e=1) {f:Nat} {cs:List Value} {y:DataW H×List MemPlace}
 (h:DataW.trod enc P W base spare held f t cs=some y): ∃v s,cs= [v]∧NView ik W v s:=by
 rcases open_slice ht h with ⟨rfl,_⟩|⟨a,len,cap,m,n,D,Pl,rfl,_,hl,hm,hmm,_,hi⟩
 ·exact ⟨_,[],rfl,none,0,rfl,Nat.zero_le _,fun j x hj=>by simp at hj,fun x hx=>by cases hx⟩
 ·obtain ⟨B,hB⟩:=choose_lt (α:=Int) (n:=len) (p:=fun i k=>(∃b f,a=⟨b,f,none⟩∧b<W.heap.size∧W.cell? ⟨b,f+i,none⟩=some (.int ik k))∧ik.min≤k∧k≤ik.max) (fun i h=>by
   obtain ⟨cs,h1,h2⟩:=hi i (by rw [hmm];split<;>omega)
   rw [hc] at h1
   obtain ⟨hl1,hcell⟩:=cells_at h1
   obtain ⟨k,rfl,_,hw⟩:=DataW.trod_int he h2
   have hk:ik.min≤k∧k≤ik.max:=by simpa [Lit.wf] using hw
   have h0:=hcell 0 (by omega)
   rw [Go.Deep.add_add] at h0
   obtain ⟨b,f,rfl⟩: ∃b f,a=⟨b,f,none⟩:=by
    obtain ⟨cs',h1',_⟩:=hi 0 (by rw [hmm];split<;>omega)
    rw [hc] at h1'
    exact plain_row h1'
   rw [add_plain] at h0
   simp only [Nat.mul_one,Nat.add_zero,List.getElem?_cons_zero] at h0
   exact ⟨k,⟨b,f,rfl,block_lt_of_cell h0,h0⟩,hk⟩)
  have hget: ∀(i:Nat) (k:Int),((List.range len).map B)[i]? =some k→i<len∧k=B i:=fun i k hk=>by
   have hil:i<len:=by
    have:=(List.getElem?_eq_some_iff.1 hk).1
    simpa using this
   rw [List.getElem?_map,List.getElem?_range hil] at hk
   cases hk
   exact ⟨hil,rfl⟩
  refine ⟨_,(List.range len).map B,rfl,some a,cap,by simp,by simpa using by omega,fun i k hk=> ?_,fun x hx=> ?_⟩
  ·obtain ⟨hil,rfl⟩:=hget i k hk
   obtain ⟨⟨b,f,rfl,h1,h2⟩,_⟩:=hB i hil
   exact ⟨b,f,rfl,h1,h2⟩
  ·obtain ⟨i,hi,rfl⟩:=List.mem_iff_getElem.1 hx
   obtain ⟨hil,e⟩:=hget i _ (List.getElem?_eq_getElem hi)
   rw [e]
   exact (hB i hil).2
theorem open_nums {t e:TypeId} {ik:IntKind} (ht:P.underlying t=some (.slice e)) (he:P.underlying e=some (.int ik)) (hc:P.cellsOf e=1) (hv:Value.okWide P W r b0 t v) (h:DataW.Trod enc P W base spare held t v d p): ∃s,NView ik W v s:=by
 obtain ⟨a0,len,cap,rfl⟩:=okWide_slice ht hv
 obtain ⟨fuel,hf⟩:=h
 obtain ⟨v,s,e1,h1⟩:=trod_nums ht he hc hf
 cases e1
 exact ⟨s,h1⟩
def OpsView (w:World) (v:Value) (l:List (List Int×List Int)):Prop:= ∃a c,v= .slice a l.length c∧l.length≤maxLen∧∀(i:Nat) (o:List Int×List Int),l[i]? =some o→∃g off x y,a=some ⟨g,off,none⟩∧g<w.heap.size∧
 w.cell? ⟨g,off+i*2,none⟩=some x∧w.cell? ⟨g,off+i*2+1,none⟩=some y∧NView .i64 w x o.1∧NView .u32 w y o.2
end
theorem NView.touch0 {ik:IntKind} {w w':World} {v:Value} {s:List Int} (h:NView ik w v s) (hs:w.heap.size≤w'.heap.size) (hc: ∀g o x,g<w.heap.size→w.cell? ⟨g,o,none⟩=some x→w'.cell? ⟨g,o,none⟩=some x):NView ik w' v s:=by
 obtain ⟨a,c,rfl,h0,h1,h2⟩:=h
 refine ⟨a,c,rfl,h0,fun j x hj=> ?_,h2⟩
 obtain ⟨g,o,rfl,h3,h4⟩:=h1 j x hj
 exact ⟨g,o,rfl,Nat.lt_of_lt_of_le h3 hs,hc _ _ _ h3 h4⟩
theorem OpsView.touch0 {w w':World} {v:Value} {l:List (List Int×List Int)} (h:OpsView w v l) (hs:w.heap.size≤w'.heap.size) (hc: ∀g o x,g<w.heap.size→w.cell? ⟨g,o,none⟩=some x→w'.cell? ⟨g,o,none⟩=some x):OpsView w' v l:=by
 obtain ⟨a,c,rfl,h0,h1⟩:=h
 refine ⟨a,c,rfl,h0,fun i o hi=> ?_⟩
 obtain ⟨g,off,x,y,rfl,h2,h3,h4,h5,h6⟩:=h1 i o hi
 exact ⟨g,off,x,y,rfl,Nat.lt_of_lt_of_le h2 hs,hc _ _ _ h2 h3,hc _ _ _ h2 h4,h5.touch0 hs hc,h6.touch0 hs hc⟩
end Go.Ux
namespace Go.Ux
open Go Go.RowKit Go.ChangeShapes Go.WideShapes Go.ChangeAt
section
variable {H:Type} {enc:TypeId×Value→H} {P:Program}
def bears (P:Program) (ts:List TypeId):Bool:=ts.all fun t=>P.readableRec t&&decide (t<P.types.size)
theorem trodAll_stays (hl:laidOutB P=true) {W W':World} {sp:Nat→Bool}: ∀{ts:List TypeId} {vs:List Value} {ds:List (DataW H)} {ps:List MemPlace},bears P ts=true→
 DataW.TrodAll enc P W 0 (fun _=>true) true ts vs ds ps→(∀p∈ps,W.sameAt W' p)→(∀p∈ps,sp p.block=true)→DataW.TrodAll enc P W' 0 sp true ts vs ds ps
 | [],_,_,_,_,h,_,_=>by
   obtain ⟨rfl,rfl,rfl⟩:=trodAll_nil h
   exact trodAll_mk0
 |t::ts,_,_,_,hb,h,hs,hp=>by
  obtain ⟨v,vs,d,ds,p,q,rfl,rfl,rfl,h0,h1⟩:=trodAll_cons h
  simp only [bears,List.all_cons,Bool.and_eq_true,decide_eq_true_eq] at hb
  exact trodAll_cons_mk (WideElems.Trod_stays hl hb.1.1 hb.1.2 h0 (fun x hx=>hs x (by simp [hx])) (fun x hx=>hp x (by simp [hx])))
   (trodAll_stays hl (by simpa [bears] using hb.2) h1 (fun x hx=>hs x (by simp [hx])) (fun x hx=>hp x (by simp [hx])))
theorem law_post {f:Func} {s:ChangeSpec} {W W':World} {args:Array Value} {ds gs:List (DataW H)} {before:List MemPlace} {bt:TypeId}
 (hl:laidOutB P=true) (hb:bears P f.params.toList=true) (hrt:f.resultTypes= #[bt]) (hbt:P.underlying bt=some .bool) (hv:s.vars= [])
 (hW:DataW.Whole enc P f.params.toList s.vars false W args.toList ds gs before)
 (hres:(s.fn H (ds++gs)).results= [.lit (.bool true)]) (hargs:(s.fn H (ds++gs)).args=ds) (hvars:(s.fn H (ds++gs)).vars= [])
 (hbel:Below W.heap.size W W'):s.post enc P f false true false false W args (.bool true) W':=by
 have hW':=hW
 have hlt: ∀p∈before,p.block<W.heap.size:=fun p hp=>by simpa using hW'.lt p hp
 obtain ⟨p,q,hA,hV,rfl,hfz,hnd⟩:=hW
 rw [hv] at hV
 obtain ⟨rfl,rfl⟩:=trodVars_none hV
 refine ⟨ds,[],p++ [],[],p,[],hW',?_,?_,?_,World.keptBut_mono (fun x hx=>⟨hx,.inr (.inl (by simpa using hx))⟩) (hbel.frame _),fun h=>by cases h⟩
 ·rw [hres,hrt]
  exact trodAll_mk1 (shut_bool hbt _)
 ·rw [hargs]
  exact trodAll_stays hl hb hA (fun x hx=>hbel.same (hlt x (by simpa using hx))) (fun x hx=>by simpa using hlt x (by simpa using hx))
 ·rw [hvars,hv]
  exact hV
end
end Go.Ux
namespace Go.Ux
open Go
theorem jf_of {P:Program} {f:FuncId} {fn:Func} {s:ChangeSpec} {c:OpenClaim} (h1:laidOutB P=true) (h2:mapsRowed P=true)
 (h9:(c.inPlace==P.inPlace f&&c.unfollowed==P.unfollowed f)=true) (h11:(c.recurses==P.recurses f&&c.named==P.varsNamed f)=true)
 (h22:(c.plainKeys==P.plainKeys)=true) (h24:P.stopsHeard=true) (h25:P.mayEnter=true) (h26:(c.lifted==P.liftsFinal)=true)
 (hr:(c.wf (OpenSpec.ofChange s)&&fn.params.all (P.readableRec ·)&&namedTie P c.named s.vars&&(c.stops== [])&&(P.stops== [])&&(c.knobs== [])&&(P.stopKnobs== [])&&
   (c.maps==(fn.params.toList++s.plain.varTypes P).any (P.mapsRec ·))&&(c.ifaces==(fn.params.toList++s.plain.varTypes P).any (P.ifacesRec ·))&&(c.mapsOut==P.mapsAmong fn.resultTypes.toList)&&
   (c.loops==(fn.params.toList++s.plain.varTypes P).any (P.loopsFrom ·))&&(c.wideKeys==(fn.params.toList++s.plain.varTypes P++fn.resultTypes.toList).any (P.wideKeysFrom ·))&&
   s.vars.all (P.varReadable ·)&&fn.resultTypes.all (fun t=>P.readableRec t&&decide (t<P.types.size))&&(c.ifacesOut==fn.resultTypes.toList.any (P.ifacesRec ·))&&(c.loopsOut==fn.resultTypes.toList.any (P.loopsFrom ·))&&c.shortTexts.isNone&&(P.make==some c.make)&&(c.kinds==(if c.domain.isEmpty then [] else fn.params.toList.map fun t=>match P.underlying t with|some (.int k)=>some k|_=>none))&&(c.pinned==c.pinnedBy)&&
   (c.veiled==(fn.params.toList++s.plain.varTypes P++fn.resultTypes.toList).any (P.veiledRec ·))&&c.veiledFits P fn.params.toList (fn.params.toList++s.plain.varTypes P++fn.resultTypes.toList))=true):joinedFacts P f fn s c=true:=by
 rw [Bool.and_eq_true] at h9 h11
 simp only [Bool.and_eq_true] at hr
 obtain ⟨⟨⟨⟨⟨⟨⟨⟨⟨⟨⟨⟨⟨⟨⟨⟨⟨⟨⟨⟨⟨r1,r2⟩,r3⟩,r4⟩,r5⟩,r6⟩,r7⟩,r8⟩,r9⟩,r10⟩,r11⟩,r12⟩,r13⟩,r14⟩,r15⟩,r16⟩,r17⟩,r18⟩,r19⟩,r20⟩,r21⟩,r22⟩:=hr
 unfold joinedFacts
 rw [r1,h1,h2,r2,r3,r4,r5,r6,r7,h9.1,h9.2,h11.1,h11.2,r8,r9,r10,r11,r12,r13,r14,r15,r16,h22,r17,h24,h25,h26,r18]
 simp only [Bool.true_and,Bool.and_true,Bool.and_eq_true]
 exact ⟨⟨⟨r19,r20⟩,r21⟩,r22⟩
end Go.Ux
