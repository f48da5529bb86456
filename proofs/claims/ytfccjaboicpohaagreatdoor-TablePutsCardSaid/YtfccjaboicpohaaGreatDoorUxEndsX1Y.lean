/- A part of the proof that the statement holds for every input that it names. No other condition. -/
import Derived.Test.YtfccjaboicpohaaGreatDoorUxEndsY
set_option linter.unusedVariables false
set_option linter.unusedSimpArgs false
namespace Go.Ux
open Go Go.RowKit Go.ChangeShapes Go.WideShapes Go.Deep
section
variable {H:Type} {enc:TypeId×Value→H} {P:Program} {W:World} {b0 base:Nat} {r:Reach} {spare:Nat→Bool} {held:Bool} {v:Value} {d:DataW H} {p:List MemPlace}
theorem open_row {t e:TypeId} (ht:P.underlying t=some (.slice e)) (hv:Value.okWide P W r b0 t v) (h:DataW.Trod enc P W base spare held t v d p):
 ∃(a:Option Addr) (len c:Nat),v= .slice a len c∧len≤maxLen∧∀i,i<len→∃ad cs n y,a=some ad∧W.cells? base (ad.add (i*P.cellsOf e)) (P.cellsOf e)=some cs∧DataW.trod enc P W base spare held n e cs=some y:=by
 obtain ⟨a0,len,cap,rfl⟩:=okWide_slice ht hv
 obtain ⟨fuel,hf⟩:=h
 rcases open_slice ht hf with ⟨hcs,_⟩|⟨a,len',cap',m,n,D,Pl,hcs,_,hl,hm,hmm,_,hi⟩
 ·simp [Value.cells] at hcs
  obtain ⟨rfl,rfl,rfl⟩:=hcs
  exact ⟨none,0,0,rfl,Nat.zero_le _,fun i h=>by omega⟩
 ·simp [Value.cells] at hcs
  obtain ⟨rfl,rfl,rfl⟩:=hcs
  refine ⟨some a,len,cap,rfl,by omega,fun i h=> ?_⟩
  obtain ⟨cs,h1,h2⟩:=hi i (by rw [hmm];split<;>omega)
  exact ⟨a,cs,n,_,rfl,h1,h2⟩
end
end Go.Ux
namespace Go.Ux
open Go Go.RowKit Go.ChangeShapes Go.WideShapes Go.Deep
section
variable {H:Type} {enc:TypeId×Value→H} {P:Program} {W:World} {b0 base:Nat} {r:Reach} {spare:Nat→Bool} {held:Bool} {v:Value} {d:DataW H} {p:List MemPlace}
theorem open_nums {t e:TypeId} {ik:IntKind} (ht:P.underlying t=some (.slice e)) (he:P.underlying e=some (.int ik)) (hc:P.cellsOf e=1) (hv:Value.okWide P W r b0 t v) (h:DataW.Trod enc P W base spare held t v d p): ∃s,NView ik W v s:=by
 obtain ⟨a0,len,cap,rfl⟩:=okWide_slice ht hv
 obtain ⟨fuel,hf⟩:=h
 obtain ⟨v,s,e1,h1⟩:=trod_nums ht he hc hf
 cases e1
 exact ⟨s,h1⟩
theorem open_ops {t e e0 e1:TypeId} {f0 f1:Field} (ht:P.underlying t=some (.slice e)) (he:P.underlying e=some (.struct #[f0,f1])) (hc:P.cellsOf e=2) (hone:oneCellFields P #[f0,f1]=true)
 (h0:P.underlying f0.type=some (.slice e0)) (h1:P.underlying f1.type=some (.slice e1)) (k0:P.underlying e0=some (.int .i64)) (k1:P.underlying e1=some (.int .u32)) (c0:P.cellsOf e0=1) (c1:P.cellsOf e1=1)
 (hv:Value.okWide P W r b0 t v) (h:DataW.Trod enc P W base spare held t v d p): ∃l,OpsView W v l:=by
 obtain ⟨a,len,c,rfl,hl,hi⟩:=open_row ht hv h
 obtain ⟨B,hB⟩:=choose_lt (α:=List Int×List Int) (n:=len) (p:=fun i o=> ∃b f x y,a=some ⟨b,f,none⟩∧b<W.heap.size∧
  W.cell? ⟨b,f+i*2,none⟩=some x∧W.cell? ⟨b,f+i*2+1,none⟩=some y∧NView .i64 W x o.1∧NView .u32 W y o.2) (fun i h=>by
  obtain ⟨ad,cs,n,y,rfl,hcs,htr⟩:=hi i h
  rw [hc] at hcs
  obtain ⟨hl1,hcell⟩:=cells_at hcs
  obtain ⟨u0,u1,rfl⟩: ∃c0 c1,cs= [c0,c1]:=by
   match cs,hl1 with
   | [c0,c1],_=>exact ⟨c0,c1,rfl⟩
  obtain ⟨xs,m,_,_,_,hlen,hg⟩:=DataW.trod_struct he htr
  obtain ⟨o0,j0⟩:=hone_of hone 0 f0 rfl
  obtain ⟨o1,j1⟩:=hone_of hone 1 f1 rfl
  obtain ⟨y0,y1,rfl⟩: ∃y0 y1,xs= [y0,y1]:=by
   match xs,hlen with
   | [c0,c1],_=>exact ⟨c0,c1,rfl⟩
  have g0:=hg 0 f0 rfl
  have g1:=hg 1 f1 rfl
  rw [o0,j0] at g0
  rw [o1,j1] at g1
  obtain ⟨x0,s0,e0,n0⟩:=trod_nums h0 k0 c0 (show DataW.trod enc P W base spare held m f0.type [u0]=some y0 from g0)
  obtain ⟨x1,s1,e1,n1⟩:=trod_nums h1 k1 c1 (show DataW.trod enc P W base spare held m f1.type [u1]=some y1 from g1)
  cases e0;cases e1
  have d0:=hcell 0 (by omega)
  have d1:=hcell 1 (by omega)
  rw [Go.Deep.add_add] at d0 d1
  obtain ⟨b,f,rfl⟩: ∃b f,ad=⟨b,f,none⟩:=by
   obtain ⟨ad',cs',n',y',e',h1',_⟩:=hi 0 (by omega)
   cases e'
   rw [hc] at h1'
   exact plain_row h1'
  rw [add_plain] at d0 d1
  exact ⟨(s0,s1),b,f,u0,u1,rfl,block_lt_of_cell d0,d0,d1,n0,n1⟩)
 refine ⟨(List.range len).map B,a,c,by simp,by simpa using hl,fun i k hk=> ?_⟩
 have hil:i<len:=by
  have:=(List.getElem?_eq_some_iff.1 hk).1
  simpa using this
 rw [List.getElem?_map,List.getElem?_range hil] at hk
 cases hk
 exact hB i hil
end
end Go.Ux
