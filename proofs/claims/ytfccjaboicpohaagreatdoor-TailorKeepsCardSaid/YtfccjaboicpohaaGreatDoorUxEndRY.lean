/- A part of the proof that the statement holds for every input that it names. No other condition. -/
import Derived.Test.YtfccjaboicpohaaGreatDoorUxEndsY
set_option linter.unusedVariables false
set_option linter.unusedSimpArgs false
namespace Go.Ux
open Go Go.RowKit Go.ChangeShapes Go.WideShapes Go.Deep
section
variable {H:Type} {enc:TypeId×Value→H} {P:Program} {W:World} {b0 base:Nat} {r:Reach} {spare:Nat→Bool} {held:Bool} {v:Value} {d:DataW H} {p:List MemPlace}
def CapV (v:Value):Prop:= ∃a n c,v= .slice a n c∧n≤c∧n≤17592186044416
theorem weightsAll_mem {e:TypeId} {x:DataW H} {z:Nat} (hz:z∈DataW.weights P e x): ∀{l:List (DataW H)},x∈l→z∈DataW.weightsAll P e l
 |y::l,h=>by
  rw [DataW.weightsAll]
  rcases List.mem_cons.1 h with rfl|h
  ·exact List.mem_append_left _ hz
  ·exact List.mem_append_right _ (weightsAll_mem hz h)
theorem trod_cap {t e:TypeId} (ht:P.underlying t=some (.slice e)) (h8:P.bytesOf e=8) {f:Nat} {u:Value} {y:DataW H×List MemPlace} (h:DataW.trod enc P W base spare held f t [u]=some y) (hw: ∀z∈DataW.weights P t y.1,z≤reachBytes):CapV u:=by
 rcases open_slice ht h with ⟨hcs,_⟩|⟨a,len',cap',m,n,D,Pl,hcs,_,hl,hm,hmm,hx,hi⟩
 ·cases hcs
  exact ⟨none,0,0,rfl,Nat.le_refl _,Nat.zero_le _⟩
 ·cases hcs
  refine ⟨_,_,_,rfl,hl,?_⟩
  subst hx
  have:=hw ((((List.range len').map D).length+((List.range (m-len')).map fun j=>D (len'+j)).length)*P.bytesOf e) (by
   rw [DataW.weights,ht]
   exact List.mem_cons_self)
  rw [h8,List.length_map,List.length_range] at this
  unfold reachBytes at this
  omega
def RulesR (w:World) (v:Value) (l:List (Int×List Int×List Int)):Prop:= ∃a c,v= .slice a l.length c∧l.length≤maxLen∧∀(i:Nat) (o:Int×List Int×List Int),l[i]? =some o→(-9223372036854775808≤o.1∧o.1≤9223372036854775807)∧∃g off x y,a=some ⟨g,off,none⟩∧g<w.heap.size∧
 w.cell? ⟨g,off+i*3,none⟩=some (.int .i64 o.1)∧w.cell? ⟨g,off+i*3+1,none⟩=some x∧w.cell? ⟨g,off+i*3+2,none⟩=some y∧(NView .i64 w x o.2.1∧CapV x)∧NView .i64 w y o.2.2∧CapV y
theorem open_rules {t e e0 e1:TypeId} {f0 f1 f2:Field} (ht:P.underlying t=some (.slice e)) (he:P.underlying e=some (.struct #[f0,f1,f2])) (hc:P.cellsOf e=3) (hone:oneCellFields P #[f0,f1,f2]=true)
 (h0:P.underlying f0.type=some (.int .i64)) (h1:P.underlying f1.type=some (.slice e0)) (h2:P.underlying f2.type=some (.slice e1)) (k0:P.underlying e0=some (.int .i64)) (k1:P.underlying e1=some (.int .i64)) (c0:P.cellsOf e0=1) (c1:P.cellsOf e1=1) (b0':P.bytesOf e0=8) (b1':P.bytesOf e1=8)
 (hv:Value.okWide P W r b0 t v) (h:DataW.Trod enc P W base spare held t v d p) (hw: ∀z∈DataW.weights P t d,z≤reachBytes): ∃l,RulesR W v l:=by
 obtain ⟨a,len,c,rfl,hl,hi⟩: ∃(a:Option Addr) (len c:Nat),v= .slice a len c∧len≤maxLen∧∀i,i<len→∃ad cs n y,a=some ad∧W.cells? base (ad.add (i*P.cellsOf e)) (P.cellsOf e)=some cs∧DataW.trod enc P W base spare held n e cs=some y∧∀z∈DataW.weights P e y.1,z≤reachBytes:=by
  obtain ⟨a0,len,cap,rfl⟩:=okWide_slice ht hv
  obtain ⟨fuel,hf⟩:=h
  rcases open_slice ht hf with ⟨hcs,_⟩|⟨a,len',cap',m,n,D,Pl,hcs,_,hl,hm,hmm,hx,hi⟩
  ·simp [Value.cells] at hcs
   obtain ⟨rfl,rfl,rfl⟩:=hcs
   exact ⟨none,0,0,rfl,Nat.zero_le _,fun i h=>by omega⟩
  ·simp [Value.cells] at hcs
   obtain ⟨rfl,rfl,rfl⟩:=hcs
   refine ⟨some a,len,cap,rfl,by omega,fun i h=> ?_⟩
   obtain ⟨cs,h1,h2⟩:=hi i (by rw [hmm];split<;>omega)
   refine ⟨a,cs,n,_,rfl,h1,h2,fun z hz=>hw z ?_⟩
   have hd:=congrArg Prod.fst hx
   simp only at hd
   rw [hd,DataW.weights,ht]
   exact List.mem_cons_of_mem _ (List.mem_append_left _ (weightsAll_mem hz (List.mem_map.2 ⟨i,List.mem_range.2 h,rfl⟩)))
 obtain ⟨B,hB⟩:=choose_lt (α:=Int×List Int×List Int) (n:=len) (p:=fun i o=>(-9223372036854775808≤o.1∧o.1≤9223372036854775807)∧∃b f x y,a=some ⟨b,f,none⟩∧b<W.heap.size∧
  W.cell? ⟨b,f+i*3,none⟩=some (.int .i64 o.1)∧W.cell? ⟨b,f+i*3+1,none⟩=some x∧W.cell? ⟨b,f+i*3+2,none⟩=some y∧(NView .i64 W x o.2.1∧CapV x)∧NView .i64 W y o.2.2∧CapV y) (fun i h=>by
  obtain ⟨ad,cs,n,y,rfl,hcs,htr,hwy⟩:=hi i h
  rw [hc] at hcs
  obtain ⟨hl1,hcell⟩:=cells_at hcs
  obtain ⟨u0,u1,u2,rfl⟩: ∃c0 c1 c2,cs= [c0,c1,c2]:=by
   match cs,hl1 with
   | [c0,c1,c2],_=>exact ⟨c0,c1,c2,rfl⟩
  obtain ⟨xs,m,_,hyx,_,hlen,hg⟩:=DataW.trod_struct he htr
  obtain ⟨o0,j0⟩:=hone_of hone 0 f0 rfl
  obtain ⟨o1,j1⟩:=hone_of hone 1 f1 rfl
  obtain ⟨o2,j2⟩:=hone_of hone 2 f2 rfl
  obtain ⟨y0,y1,y2,rfl⟩: ∃y0 y1 y2,xs= [y0,y1,y2]:=by
   match xs,hlen with
   | [c0,c1,c2],_=>exact ⟨c0,c1,c2,rfl⟩
  have hwe:DataW.weights P e y.1=DataW.weightsEach P [f0.type,f1.type,f2.type] [y0.1,y1.1,y2.1]:=by
   rw [hyx]
   rw [DataW.weights,he]
   rfl
  rw [hwe] at hwy
  have g0:=hg 0 f0 rfl
  have g1:=hg 1 f1 rfl
  have g2:=hg 2 f2 rfl
  rw [o0,j0] at g0
  rw [o1,j1] at g1
  rw [o2,j2] at g2
  obtain ⟨n0,e0',_,w0⟩:=DataW.trod_int h0 (show DataW.trod enc P W base spare held m f0.type [u0]=some y0 from g0)
  obtain ⟨x1,s1,e1',n1⟩:=trod_nums h1 k0 c0 (show DataW.trod enc P W base spare held m f1.type [u1]=some y1 from g1)
  obtain ⟨x2,s2,e2',n2⟩:=trod_nums h2 k1 c1 (show DataW.trod enc P W base spare held m f2.type [u2]=some y2 from g2)
  have q1:=trod_cap h1 b0' (show DataW.trod enc P W base spare held m f1.type [u1]=some y1 from g1) (fun z hz=>hwy z (by
   rw [DataW.weightsEach,DataW.weightsEach]
   exact List.mem_append_right _ (List.mem_append_left _ hz)))
  have q2:=trod_cap h2 b1' (show DataW.trod enc P W base spare held m f2.type [u2]=some y2 from g2) (fun z hz=>hwy z (by
   rw [DataW.weightsEach,DataW.weightsEach,DataW.weightsEach]
   exact List.mem_append_right _ (List.mem_append_right _ (List.mem_append_left _ hz))))
  cases e0';cases e1';cases e2'
  have d0:=hcell 0 (by omega)
  have d1:=hcell 1 (by omega)
  have d2:=hcell 2 (by omega)
  rw [Go.Deep.add_add] at d0 d1 d2
  obtain ⟨b,f,rfl⟩: ∃b f,ad=⟨b,f,none⟩:=by
   obtain ⟨ad',cs',n',y',e',h1',_,_⟩:=hi 0 (by omega)
   cases e'
   rw [hc] at h1'
   exact plain_row h1'
  rw [add_plain] at d0 d1 d2
  exact ⟨(n0,s1,s2),by simpa [Lit.wf,IntKind.min,IntKind.max,IntKind.signed,IntKind.bits] using w0,b,f,u1,u2,rfl,block_lt_of_cell d0,d0,d1,d2,⟨n1,q1⟩,n2,q2⟩)
 refine ⟨(List.range len).map B,a,c,by simp,by simpa using hl,fun i k hk=> ?_⟩
 have hil:i<len:=by
  have:=(List.getElem?_eq_some_iff.1 hk).1
  simpa using this
 rw [List.getElem?_map,List.getElem?_range hil] at hk
 cases hk
 exact hB i hil
end
theorem RulesR.touch0 {w w':World} {v:Value} {l:List (Int×List Int×List Int)} (h:RulesR w v l) (hs:w.heap.size≤w'.heap.size) (hc: ∀g o x,g<w.heap.size→w.cell? ⟨g,o,none⟩=some x→w'.cell? ⟨g,o,none⟩=some x):RulesR w' v l:=by
 obtain ⟨a,c,rfl,h0,h1⟩:=h
 refine ⟨a,c,rfl,h0,fun i o hi=> ?_⟩
 obtain ⟨hb,g,off,x,y,rfl,h2,h3,h4,h5,h6,h7⟩:=h1 i o hi
 exact ⟨hb,g,off,x,y,rfl,Nat.lt_of_lt_of_le h2 hs,hc _ _ _ h2 h3,hc _ _ _ h2 h4,hc _ _ _ h2 h5,⟨h6.1.touch0 hs hc,h6.2⟩,h7.1.touch0 hs hc,h7.2⟩
end Go.Ux
