/- A part of the proof that the statement holds for every input that it names. No other condition. -/
import Derived.Deep.Slices
import Derived.Deep.Fields
import Derived.ProofKit
import Derived.WalkKit
import Derived.Test.YtmonfaepfbpdpaaUxNodAZ
import Derived.OpenShut
set_option linter.unusedVariables false
set_option linter.unusedSimpArgs false
namespace Go.Ux
open Go Go.RowKit Go.ChangeShapes Go.WideShapes Go.Deep
section
variable {H:Type} {enc:TypeId×Value→H} {P:Program} {W:World} {b0 base:Nat} {r:Reach} {spare:Nat→Bool} {held:Bool} {v:Value} {d:DataW H} {p:List MemPlace}
theorem cells_at {ad:Addr} {n:Nat} {cs:List Value} (h:W.cells? base ad n=some cs):cs.length=n∧∀j,j<n→W.cell? (ad.add j)=cs[j]? :=by
 obtain ⟨_,h1,h2⟩:=World.cells?_some h
 exact ⟨h1,h2⟩
theorem plain_addr {ad:Addr} {u:Value} (h:W.cell? (ad.add 0)=some u): ∃b f,ad=⟨b,f,none⟩:=by
 obtain ⟨b,off,spot⟩:=ad
 have hspot:spot=none:=by simpa [Addr.add] using World.cell?_spot h
 subst hspot
 exact ⟨b,off,rfl⟩
theorem plain_row {ad:Addr} {m:Nat} {cs:List Value} (h:W.cells? base (ad.add (0*(m+1))) (m+1)=some cs): ∃b f,ad=⟨b,f,none⟩:=by
 obtain ⟨hl,hc⟩:=cells_at h
 have h0:=hc 0 (by omega)
 rw [Go.Deep.add_add,Nat.zero_mul] at h0
 obtain ⟨c,l,rfl⟩: ∃c l,cs=c::l:=by
  cases cs with
  |nil=>simp at hl
  |cons c l=>exact ⟨c,l,rfl⟩
 exact plain_addr h0
end
end Go.Ux
namespace Go.Ux
open Go Go.RowKit Go.ChangeShapes Go.WideShapes Go.Deep
section
variable {H:Type} {enc:TypeId×Value→H} {P:Program} {W:World} {b0 base:Nat} {r:Reach} {spare:Nat→Bool} {held:Bool} {v:Value} {d:DataW H} {p:List MemPlace}
def NView (ik:IntKind) (w:World) (v:Value) (s:List Int):Prop:= ∃a c,v= .slice a s.length c∧s.length≤maxLen∧(∀(j:Nat) (x:Int),s[j]? =some x→∃g o,a=some ⟨g,o,none⟩∧g<w.heap.size∧w.cell? ⟨g,o+j,none⟩=some (.int ik x))∧∀x∈s,ik.min≤x∧x≤ik.max
def OpsView (w:World) (v:Value) (l:List (List Int×List Int)):Prop:= ∃a c,v= .slice a l.length c∧l.length≤maxLen∧∀(i:Nat) (o:List Int×List Int),l[i]? =some o→∃g off x y,a=some ⟨g,off,none⟩∧g<w.heap.size∧
 w.cell? ⟨g,off+i*2,none⟩=some x∧w.cell? ⟨g,off+i*2+1,none⟩=some y∧NView .i64 w x o.1∧NView .u32 w y o.2
end
theorem NView.touch0 {ik:IntKind} {w w':World} {v:Value} {s:List Int} (h:NView ik w v s) (hs:w.heap.size≤w'.heap.size) (hc: ∀g o x,g<w.heap.size→w.cell? ⟨g,o,none⟩=some x→w'.cell? ⟨g,o,none⟩=some x):NView ik w' v s:=by
 obtain ⟨a,c,rfl,h0,h1,h2⟩:=h
 refine ⟨a,c,rfl,h0,fun j x hj=> ?_,h2⟩
 obtain ⟨g,o,rfl,h3,h4⟩:=h1 j x hj
 exact ⟨g,o,rfl,Nat.lt_of_lt_of_le h3 hs,hc _ _ _ h3 h4⟩
theorem OpsView.touch0 {w w':World} {v:Value} {l:List (List Int×List Int)} (h:OpsView w v l) (hs:w.heap.size≤w'.heap.size) (hc: ∀g o x,g<w.heap.size→w.cell? ⟨g,o,none⟩=some x→w'.cell? ⟨g,o,none⟩=some x):OpsView w' v l:=by
 obtain ⟨a,c,rfl,h0,h1⟩:=h
 refine ⟨a,c,rfl,h0,fun i o hi=> ?_⟩
 obtain ⟨g,off,x,y,rfl,h2,h3,h4,h5,h6⟩:=h1 i o hi
 exact ⟨g,off,x,y,rfl,Nat.lt_of_lt_of_le h2 hs,hc _ _ _ h2 h3,hc _ _ _ h2 h4,h5.touch0 hs hc,h6.touch0 hs hc⟩
end Go.Ux
namespace Go.Ux
open Go Go.RowKit Go.ChangeShapes Go.WideShapes Go.Deep
section
variable {H:Type} {enc:TypeId×Value→H} {P:Program} {W:World} {b0 base:Nat} {r:Reach} {spare:Nat→Bool} {held:Bool} {v:Value} {d:DataW H} {p:List MemPlace}
def CapV (v:Value):Prop:= ∃a n c,v= .slice a n c∧n≤c∧n≤17592186044416
theorem weightsAll_mem {e:TypeId} {x:DataW H} {z:Nat} (hz:z∈DataW.weights P e x): ∀{l:List (DataW H)},x∈l→z∈DataW.weightsAll P e l
 |y::l,h=>by
  rw [DataW.weightsAll]
  rcases List.mem_cons.1 h with rfl|h
  ·exact List.mem_append_left _ hz
  ·exact List.mem_append_right _ (weightsAll_mem hz h)
def RulesR (w:World) (v:Value) (l:List (Int×List Int×List Int)):Prop:= ∃a c,v= .slice a l.length c∧l.length≤maxLen∧∀(i:Nat) (o:Int×List Int×List Int),l[i]? =some o→(-9223372036854775808≤o.1∧o.1≤9223372036854775807)∧∃g off x y,a=some ⟨g,off,none⟩∧g<w.heap.size∧
 w.cell? ⟨g,off+i*3,none⟩=some (.int .i64 o.1)∧w.cell? ⟨g,off+i*3+1,none⟩=some x∧w.cell? ⟨g,off+i*3+2,none⟩=some y∧(NView .i64 w x o.2.1∧CapV x)∧NView .i64 w y o.2.2∧CapV y
end
theorem RulesR.touch0 {w w':World} {v:Value} {l:List (Int×List Int×List Int)} (h:RulesR w v l) (hs:w.heap.size≤w'.heap.size) (hc: ∀g o x,g<w.heap.size→w.cell? ⟨g,o,none⟩=some x→w'.cell? ⟨g,o,none⟩=some x):RulesR w' v l:=by
 obtain ⟨a,c,rfl,h0,h1⟩:=h
 refine ⟨a,c,rfl,h0,fun i o hi=> ?_⟩
 obtain ⟨hb,g,off,x,y,rfl,h2,h3,h4,h5,h6,h7⟩:=h1 i o hi
 exact ⟨hb,g,off,x,y,rfl,Nat.lt_of_lt_of_le h2 hs,hc _ _ _ h2 h3,hc _ _ _ h2 h4,hc _ _ _ h2 h5,⟨h6.1.touch0 hs hc,h6.2⟩,h7.1.touch0 hs hc,h7.2⟩
end Go.Ux
namespace Go.Ux
open Go Go.RowKit Go.ChangeShapes Go.WideShapes Go.Deep
section
variable {H:Type} {enc:TypeId×Value→H} {P:Program} {W:World} {b0 base:Nat} {r:Reach} {spare:Nat→Bool} {held:Bool} {v:Value} {d:DataW H} {p:List MemPlace}
instance:Inhabited Nod:=⟨.mk 0 0 ⟨#[]⟩ ⟨#[]⟩ 0 []⟩
theorem trod_node {t tl:TypeId} {f0 f1 f2 f3 f4 f5:Field} (he:P.underlying t=some (.struct #[f0,f1,f2,f3,f4,f5])) (hc:P.cellsOf t=6) (hb:P.bytesOf t=80) (hone:oneCellFields P #[f0,f1,f2,f3,f4,f5]=true)
 (h0:P.underlying f0.type=some (.int .i64)) (h1:P.underlying f1.type=some (.int .i64)) (h2:P.underlying f2.type=some .string) (h3:P.underlying f3.type=some .string) (h4:P.underlying f4.type=some (.int .i64)) (h5:P.underlying f5.type=some (.slice tl)) (htl:tl=t):
 ∀(d:DataW H) (fuel:Nat) (cs:List Value) (p:List MemPlace),DataW.trod enc P W base spare held fuel t cs=some (d,p)→(∀z∈DataW.weights P t d,z≤reachBytes)→∃x u,cs= [.int .i64 (Nod.kind x),.int .i64 x.op,.string x.s,.string x.t,.int .i64 x.n,u]∧ND W (fun g=>g<W.heap.size) x (nodV x u):=by
 subst htl
 intro d
 obtain ⟨m,hm⟩: ∃m,SizeOf.sizeOf d=m:=⟨_,rfl⟩
 induction m using Nat.strongRecOn generalizing d with
 |_ m ih=>
  intro fuel cs p htr hw
  obtain ⟨xs,n,_,hyx,hlc,hlen,hg⟩:=DataW.trod_struct he htr
  rw [hc] at hlc
  obtain ⟨u0,u1,u2,u3,u4,u5,rfl⟩: ∃c0 c1 c2 c3 c4 c5,cs= [c0,c1,c2,c3,c4,c5]:=by
   match cs,hlc with
   | [c0,c1,c2,c3,c4,c5],_=>exact ⟨c0,c1,c2,c3,c4,c5,rfl⟩
  obtain ⟨y0,y1,y2,y3,y4,y5,rfl⟩: ∃y0 y1 y2 y3 y4 y5,xs= [y0,y1,y2,y3,y4,y5]:=by
   match xs,hlen with
   | [c0,c1,c2,c3,c4,c5],_=>exact ⟨c0,c1,c2,c3,c4,c5,rfl⟩
  obtain ⟨o0,j0⟩:=hone_of hone 0 f0 rfl
  obtain ⟨o1,j1⟩:=hone_of hone 1 f1 rfl
  obtain ⟨o2,j2⟩:=hone_of hone 2 f2 rfl
  obtain ⟨o3,j3⟩:=hone_of hone 3 f3 rfl
  obtain ⟨o4,j4⟩:=hone_of hone 4 f4 rfl
  obtain ⟨o5,j5⟩:=hone_of hone 5 f5 rfl
  have g0:=hg 0 f0 rfl
  have g1:=hg 1 f1 rfl
  have g2:=hg 2 f2 rfl
  have g3:=hg 3 f3 rfl
  have g4:=hg 4 f4 rfl
  have g5:=hg 5 f5 rfl
  rw [o0,j0] at g0
  rw [o1,j1] at g1
  rw [o2,j2] at g2
  rw [o3,j3] at g3
  rw [o4,j4] at g4
  rw [o5,j5] at g5
  obtain ⟨n0,e0,_,w0⟩:=DataW.trod_int h0 (show DataW.trod enc P W base spare held n f0.type [u0]=some y0 from g0)
  obtain ⟨n1,e1,_,w1⟩:=DataW.trod_int h1 (show DataW.trod enc P W base spare held n f1.type [u1]=some y1 from g1)
  obtain ⟨s2,e2,q2,_⟩:=DataW.trod_string h2 (show DataW.trod enc P W base spare held n f2.type [u2]=some y2 from g2)
  obtain ⟨s3,e3,q3,_⟩:=DataW.trod_string h3 (show DataW.trod enc P W base spare held n f3.type [u3]=some y3 from g3)
  obtain ⟨n4,e4,_,w4⟩:=DataW.trod_int h4 (show DataW.trod enc P W base spare held n f4.type [u4]=some y4 from g4)
  cases e0;cases e1;cases e2;cases e3;cases e4
  have hd:d= .agg [y0.1,y1.1,y2.1,y3.1,y4.1,y5.1]:=congrArg Prod.fst hyx
  have hwe:DataW.weights P tl d=DataW.weightsEach P [f0.type,f1.type,f2.type,f3.type,f4.type,f5.type] [y0.1,y1.1,y2.1,y3.1,y4.1,y5.1]:=by
   rw [hd,DataW.weights,he]
   rfl
  rw [hwe] at hw
  simp only [DataW.weightsEach,List.mem_append] at hw
  have b2:s2.size≤140737488355328:=by
   have:=hw s2.data.toList.length (.inr (.inr (.inl (by rw [q2];simp [DataW.weights]))))
   simp [reachBytes] at this
   have e:s2.data.size=s2.size:=rfl
   omega
  have b3:s3.size≤140737488355328:=by
   have:=hw s3.data.toList.length (.inr (.inr (.inr (.inl (by rw [q3];simp [DataW.weights])))))
   simp [reachBytes] at this
   have e:s3.data.size=s3.size:=rfl
   omega
  have hw5: ∀z∈DataW.weights P f5.type y5.1,z≤reachBytes:=fun z hz=>hw z (.inr (.inr (.inr (.inr (.inr (.inl hz))))))
  have i0:i64B n0:=by simpa [i64B,Lit.wf,IntKind.min,IntKind.max,IntKind.signed,IntKind.bits] using w0
  have i1:i64B n1:=by simpa [i64B,Lit.wf,IntKind.min,IntKind.max,IntKind.signed,IntKind.bits] using w1
  have i4:i64B n4:=by simpa [i64B,Lit.wf,IntKind.min,IntKind.max,IntKind.signed,IntKind.bits] using w4
  rcases open_slice h5 (show DataW.trod enc P W base spare held n f5.type [u5]=some y5 from g5) with ⟨hcs,_⟩|⟨ad,len,cap,mm,nn,D,Pl,hcs,_,hl,hmx,hmm,hx,hi⟩
  ·cases hcs
   exact ⟨.mk n0 n1 s2 s3 n4 [],_,rfl,ND.of_rows ⟨i0,i1,i4,b2,b3,by show 0≤_;omega⟩ (NRows.nil _ _)⟩
  ·cases hcs
   have hsz:SizeOf.sizeOf y5.1<m:=by
    rw [←hm,hd]
    simp
    omega
   have hy5:y5.1= .slice ((List.range len).map D) ((List.range (mm-len)).map fun j=>D (len+j)):=congrArg Prod.fst hx
   have hll:len≤140737488355328:=by
    have:=hw5 ((((List.range len).map D).length+((List.range (mm-len)).map fun j=>D (len+j)).length)*P.bytesOf tl) (by
     rw [hy5,DataW.weights,h5]
     exact List.mem_cons_self)
    rw [hb,List.length_map,List.length_range] at this
    unfold reachBytes at this
    omega
   have key: ∀i,i<len→∃y:Nod,∃u,SixAt W (fun g=>g<W.heap.size) (some ad) i (nodV y u)∧ND W (fun g=>g<W.heap.size) y (nodV y u):=fun i hlt=>by
    obtain ⟨cs',h6,h7⟩:=hi i (by rw [hmm];split<;>omega)
    have hmem:D i∈(List.range len).map D:=List.mem_map.2 ⟨i,List.mem_range.2 hlt,rfl⟩
    have hds:SizeOf.sizeOf (D i)<m:=by
     have h8:=List.sizeOf_lt_of_mem hmem
     rw [hy5] at hsz
     simp at hsz
     omega
    obtain ⟨y,u,rfl,hy⟩:=ih _ hds (D i) rfl nn cs' (Pl i) h7 (fun z hz=>hw5 z (by
     rw [hy5,DataW.weights,h5]
     exact List.mem_cons_of_mem _ (List.mem_append_left _ (weightsAll_mem hz hmem))))
    rw [hc] at h6
    obtain ⟨_,hcell⟩:=cells_at h6
    have d0:=hcell 0 (by omega)
    have d1:=hcell 1 (by omega)
    have d2:=hcell 2 (by omega)
    have d3:=hcell 3 (by omega)
    have d4:=hcell 4 (by omega)
    have d5:=hcell 5 (by omega)
    rw [Go.Deep.add_add] at d0 d1 d2 d3 d4 d5
    obtain ⟨b,f,rfl⟩: ∃b f,ad=⟨b,f,none⟩:=by
     obtain ⟨cs0,h6',_⟩:=hi 0 (by rw [hmm];split<;>omega)
     rw [hc] at h6'
     exact plain_row h6'
    rw [add_plain] at d0 d1 d2 d3 d4 d5
    exact ⟨y,u,⟨b,f,_,_,_,_,_,_,rfl,block_lt_of_cell d0,block_lt_of_cell d0,rfl,d0,d1,d2,d3,d4,d5⟩,hy⟩
   obtain ⟨B,hB⟩:=choose_lt (α:=Nod) (n:=len) (p:=fun i y=> ∃u,SixAt W (fun g=>g<W.heap.size) (some ad) i (nodV y u)∧ND W (fun g=>g<W.heap.size) y (nodV y u)) key
   refine ⟨.mk n0 n1 s2 s3 n4 ((List.range len).map B),_,rfl,ND.of_rows ⟨i0,i1,i4,b2,b3,by show ((List.range len).map B).length≤_;simpa using hll⟩ ⟨some ad,cap,by simp [Nod.l],by simpa [Nod.l] using hl,fun i y hy=> ?_⟩⟩
   have hil:i<len:=by
    have:=(List.getElem?_eq_some_iff.1 hy).1
    simpa [Nod.l] using this
   rw [show (Nod.mk n0 n1 s2 s3 n4 ((List.range len).map B)).l=(List.range len).map B from rfl,List.getElem?_map,List.getElem?_range hil] at hy
   cases hy
   obtain ⟨u,h1',h2'⟩:=hB i hil
   exact ⟨_,h1',h2'⟩
end
end Go.Ux
namespace Go.Ux
open Go Go.RowKit Go.ChangeShapes Go.WideShapes Go.ChangeAt
section
variable {H:Type} {enc:TypeId×Value→H} {P:Program}
def bears (P:Program) (ts:List TypeId):Bool:=ts.all fun t=>P.readableRec t&&decide (t<P.types.size)
theorem trodAll_stays (hl:laidOutB P=true) {W W':World} {sp:Nat→Bool}: ∀{ts:List TypeId} {vs:List Value} {ds:List (DataW H)} {ps:List MemPlace},bears P ts=true→
 DataW.TrodAll enc P W 0 (fun _=>true) true ts vs ds ps→(∀p∈ps,W.sameAt W' p)→(∀p∈ps,sp p.block=true)→DataW.TrodAll enc P W' 0 sp true ts vs ds ps
 | [],_,_,_,_,h,_,_=>by
   obtain ⟨rfl,rfl,rfl⟩:=trodAll_nil h
   exact trodAll_mk0
 |t::ts,_,_,_,hb,h,hs,hp=>by
  obtain ⟨v,vs,d,ds,p,q,rfl,rfl,rfl,h0,h1⟩:=trodAll_cons h
  simp only [bears,List.all_cons,Bool.and_eq_true,decide_eq_true_eq] at hb
  exact trodAll_cons_mk (WideElems.Trod_stays hl hb.1.1 hb.1.2 h0 (fun x hx=>hs x (by simp [hx])) (fun x hx=>hp x (by simp [hx])))
   (trodAll_stays hl (by simpa [bears] using hb.2) h1 (fun x hx=>hs x (by simp [hx])) (fun x hx=>hp x (by simp [hx])))
theorem law_post {f:Func} {s:ChangeSpec} {W W':World} {args:Array Value} {ds gs:List (DataW H)} {before:List MemPlace} {bt:TypeId}
 (hl:laidOutB P=true) (hb:bears P f.params.toList=true) (hrt:f.resultTypes= #[bt]) (hbt:P.underlying bt=some .bool) (hv:s.vars= [])
 (hW:DataW.Whole enc P f.params.toList s.vars false W args.toList ds gs before)
 (hres:(s.fn H (ds++gs)).results= [.lit (.bool true)]) (hargs:(s.fn H (ds++gs)).args=ds) (hvars:(s.fn H (ds++gs)).vars= [])
 (hbel:Below W.heap.size W W'):s.post enc P f false true false false W args (.bool true) W':=by
 have hW':=hW
 have hlt: ∀p∈before,p.block<W.heap.size:=fun p hp=>by simpa using hW'.lt p hp
 obtain ⟨p,q,hA,hV,rfl,hfz,hnd⟩:=hW
 rw [hv] at hV
 obtain ⟨rfl,rfl⟩:=trodVars_none hV
 refine ⟨ds,[],p++ [],[],p,[],hW',?_,?_,?_,World.keptBut_mono (fun x hx=>⟨hx,.inr (.inl (by simpa using hx))⟩) (hbel.frame _),fun h=>by cases h⟩
 ·rw [hres,hrt]
  exact trodAll_mk1 (shut_bool hbt _)
 ·rw [hargs]
  exact trodAll_stays hl hb hA (fun x hx=>hbel.same (hlt x (by simpa using hx))) (fun x hx=>by simpa using hlt x (by simpa using hx))
 ·rw [hvars,hv]
  exact hV
end
end Go.Ux
