/- A part of the proof that the statement holds for every input that it names. No other condition. -/
import Derived.Test.YtclffhpdekepkaaGreatDoorUxEndsZ
set_option linter.unusedVariables false
set_option linter.unusedSimpArgs false
namespace Go.Ux
open Go Go.RowKit Go.ChangeShapes Go.WideShapes Go.Deep
section
variable {H:Type} {enc:TypeId×Value→H} {P:Program} {W:World} {b0 base:Nat} {r:Reach} {spare:Nat→Bool} {held:Bool} {v:Value} {d:DataW H} {p:List MemPlace}
theorem cells_at {ad:Addr} {n:Nat} {cs:List Value} (h:W.cells? base ad n=some cs):cs.length=n∧∀j,j<n→W.cell? (ad.add j)=cs[j]? :=by
 obtain ⟨_,h1,h2⟩:=World.cells?_some h
 exact ⟨h1,h2⟩
theorem plain_addr {ad:Addr} {u:Value} (h:W.cell? (ad.add 0)=some u): ∃b f,ad=⟨b,f,none⟩:=by
 obtain ⟨b,off,spot⟩:=ad
 have hspot:spot=none:=by simpa [Addr.add] using World.cell?_spot h
 subst hspot
 exact ⟨b,off,rfl⟩
theorem plain_row {ad:Addr} {m:Nat} {cs:List Value} (h:W.cells? base (ad.add (0*(m+1))) (m+1)=some cs): ∃b f,ad=⟨b,f,none⟩:=by
 obtain ⟨hl,hc⟩:=cells_at h
 have h0:=hc 0 (by omega)
 rw [Go.Deep.add_add,Nat.zero_mul] at h0
 obtain ⟨c,l,rfl⟩: ∃c l,cs=c::l:=by
  cases cs with
  |nil=>simp at hl
  |cons c l=>exact ⟨c,l,rfl⟩
 exact plain_addr h0
end
end Go.Ux
namespace Go.Ux
open Go Go.RowKit Go.ChangeShapes Go.WideShapes Go.Deep
section
variable {H:Type} {enc:TypeId×Value→H} {P:Program} {W:World} {b0 base:Nat} {r:Reach} {spare:Nat→Bool} {held:Bool} {v:Value} {d:DataW H} {p:List MemPlace}
theorem trod_nums {t e:TypeId} {ik:IntKind} (ht:P.underlying t=some (.slice e)) (he:P.underlying e=some (.int ik)) (hc:P.cellsOf e=1) {f:Nat} {cs:List Value} {y:DataW H×List MemPlace}
 (h:DataW.trod enc P W base spare held f t cs=some y): ∃v s,cs= [v]∧NView ik W v s:=by
 rcases open_slice ht h with ⟨rfl,_⟩|⟨a,len,cap,m,n,D,Pl,rfl,_,hl,hm,hmm,_,hi⟩
 ·exact ⟨_,[],rfl,none,0,rfl,Nat.zero_le _,fun j x hj=>by simp at hj,fun x hx=>by cases hx⟩
 ·obtain ⟨B,hB⟩:=choose_lt (α:=Int) (n:=len) (p:=fun i k=>(∃b f,a=⟨b,f,none⟩∧b<W.heap.size∧W.cell? ⟨b,f+i,none⟩=some (.int ik k))∧ik.min≤k∧k≤ik.max) (fun i h=>by
   obtain ⟨cs,h1,h2⟩:=hi i (by rw [hmm];split<;>omega)
   rw [hc] at h1
   obtain ⟨hl1,hcell⟩:=cells_at h1
   obtain ⟨k,rfl,_,hw⟩:=DataW.trod_int he h2
   have hk:ik.min≤k∧k≤ik.max:=by simpa [Lit.wf] using hw
   have h0:=hcell 0 (by omega)
   rw [Go.Deep.add_add] at h0
   obtain ⟨b,f,rfl⟩: ∃b f,a=⟨b,f,none⟩:=by
    obtain ⟨cs',h1',_⟩:=hi 0 (by rw [hmm];split<;>omega)
    rw [hc] at h1'
    exact plain_row h1'
   rw [add_plain] at h0
   simp only [Nat.mul_one,Nat.add_zero,List.getElem?_cons_zero] at h0
   exact ⟨k,⟨b,f,rfl,block_lt_of_cell h0,h0⟩,hk⟩)
  have hget: ∀(i:Nat) (k:Int),((List.range len).map B)[i]? =some k→i<len∧k=B i:=fun i k hk=>by
   have hil:i<len:=by
    have:=(List.getElem?_eq_some_iff.1 hk).1
    simpa using this
   rw [List.getElem?_map,List.getElem?_range hil] at hk
   cases hk
   exact ⟨hil,rfl⟩
  refine ⟨_,(List.range len).map B,rfl,some a,cap,by simp,by simpa using by omega,fun i k hk=> ?_,fun x hx=> ?_⟩
  ·obtain ⟨hil,rfl⟩:=hget i k hk
   obtain ⟨⟨b,f,rfl,h1,h2⟩,_⟩:=hB i hil
   exact ⟨b,f,rfl,h1,h2⟩
  ·obtain ⟨i,hi,rfl⟩:=List.mem_iff_getElem.1 hx
   obtain ⟨hil,e⟩:=hget i _ (List.getElem?_eq_getElem hi)
   rw [e]
   exact (hB i hil).2
theorem open_nums {t e:TypeId} {ik:IntKind} (ht:P.underlying t=some (.slice e)) (he:P.underlying e=some (.int ik)) (hc:P.cellsOf e=1) (hv:Value.okWide P W r b0 t v) (h:DataW.Trod enc P W base spare held t v d p): ∃s,NView ik W v s:=by
 obtain ⟨a0,len,cap,rfl⟩:=okWide_slice ht hv
 obtain ⟨fuel,hf⟩:=h
 obtain ⟨v,s,e1,h1⟩:=trod_nums ht he hc hf
 cases e1
 exact ⟨s,h1⟩
end
end Go.Ux
