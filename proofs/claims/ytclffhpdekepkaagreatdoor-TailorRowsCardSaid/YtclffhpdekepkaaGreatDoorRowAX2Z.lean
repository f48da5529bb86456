/- A part of the proof that the statement holds for every input that it names. No other condition. -/
import Derived.Test.YtclffhpdekepkaaGreatDoorRowAZ
set_option linter.unusedVariables false
set_option linter.unusedSimpArgs false
namespace Go.Ux
open Go Go.Ux.Rules
def rowRul (r:Nat→Nat):Nat→Nat→List Rul
 |_,0=> []
 |i,n+1=>⟨1+r i,[49+i],[]⟩::rowRul r (i+1) n
def alnC (c:Nat):Prop:=48≤c∧c≤57∨97≤c∧c≤122
theorem aln_bl {c:Nat} (h:alnC c):isBl c=false:=by unfold isBl;unfold alnC at h;rw [beq_false_of_ne (by omega),beq_false_of_ne (by omega)];rfl
theorem aln_sp {c:Nat} (h:alnC c):isSp c=false:=by
 unfold isSp
 unfold alnC at h
 rw [beq_false_of_ne (by omega),beq_false_of_ne (by omega),beq_false_of_ne (by omega),beq_false_of_ne (by omega),beq_false_of_ne (by omega),beq_false_of_ne (by omega)]
 rfl
def restOk (t:List Nat):Prop:=t= []∨∃k u,(1≤k∧k≤4)∧t=32::(relL k++u)
theorem relL_head {k:Nat} (h:1≤k∧k≤4) (u:List Nat): ∃c t,relL k++u=c::t∧(c=60∨c=61):=by
 unfold relL
 split
 ·exact ⟨60,_,rfl,.inl rfl⟩
 ·split
  ·exact ⟨60,_,rfl,.inl rfl⟩
  ·split
   ·exact ⟨60,_,rfl,.inl rfl⟩
   ·exact ⟨61,_,rfl,.inr rfl⟩
theorem blank_rel {k:Nat} (h:1≤k∧k≤4) (u:List Nat):blankS (relL k++u)=relL k++u:=by
 obtain ⟨c,t,e,hc⟩:=relL_head h u
 rw [e,blankS_cons]
 rcases hc with rfl|rfl<;>rfl
theorem rest_head {t:List Nat} (h:restOk t):(blankS t).head?≠some 47:=by
 rcases h with rfl|⟨k,u,hk,rfl⟩
 ·simp [blankS]
 ·rw [blank_sp,blank_rel hk]
  obtain ⟨c,t,e,hc⟩:=relL_head hk u
  rw [e]
  rcases hc with rfl|rfl<;>simp
theorem seq_row {c:Nat} (h:alnC c) {t:List Nat} (ht:restOk t):seqS (32::c::t)=(some [c],t):=by
 unfold seqS
 rw [blank_sp,show blankS (c::t)=c::t by rw [blankS_cons,aln_bl h,if_neg (by simp)]]
 have hc: ¬c=92:=by unfold alnC at h;omega
 rcases ht with rfl|⟨k,u,hk,rfl⟩
 ·have:seqG [c] []=(some [c],[]):=by
   unfold seqG
   rw [aln_sp h,if_neg (by simp),if_neg (by simp),if_neg hc]
   rfl
  rw [this]
  rfl
 ·obtain ⟨d,t,e,_⟩:=relL_head hk u
  rw [e]
  have:seqG (c::32::d::t) []=(some [c],32::d::t):=by
   unfold seqG
   rw [aln_sp h,if_neg (by simp),if_neg (by simp),if_neg hc]
   unfold seqG
   rw [show isSp 32=true from rfl,if_pos rfl]
   rfl
  rw [this]
  rfl
theorem rel_row {k:Nat} (h:1≤k∧k≤4) (t:List Nat):relS (relL k++32::t)=(1+k,32::t):=by
 have hk:k=1∨k=2∨k=3∨k=4:=by omega
 rcases hk with rfl|rfl|rfl|rfl<;>rfl
theorem rule_row {k c:Nat} (h:1≤k∧k≤4) (hc:alnC c) {t:List Nat} (ht:restOk t):ruleS false (relL k++32::c::t)=(some ⟨1+k,[c],[]⟩,t):=by
 unfold ruleS
 rw [rel_row h,if_neg (show¬((1+k,32::c::t).1=0∨(false=true∧(1+k,32::c::t).1≠1)) from fun hh=>by
  rcases hh with hh|⟨hh,_⟩
  ·have hh:1+k=0:=hh
   omega
  ·cases hh)]
 dsimp only
 rw [seq_row hc ht]
 dsimp only
 rw [if_pos (.inr (rest_head ht))]
theorem row_rest (r:Nat→Nat) (i n:Nat) (hr: ∀j,j<i+n→1≤r j∧r j≤4):restOk (rowS r i n):=by
 cases n with
 |zero=>exact .inl rfl
 |succ n=>exact .inr ⟨r i,_,hr i (by omega),rfl⟩
theorem parse_row (r:Nat→Nat): ∀(n i N:Nat) (out:List Rul),out≠[]→n<N→i+n≤8→(∀j,j<i+n→1≤r j∧r j≤4)→parseG N (rowS r i n) out=(out++rowRul r i n,none)
 |0,i,N+1,out,_,_,_,_=>by
  show parseG (N+1) [] out=_
  unfold parseG
  rw [if_pos (show blankS []= [] from rfl)]
  exact congrArg (fun x=>(x,none)) (List.append_nil out).symm
 |n+1,i,N+1,out,ho,hN,hi,hr=>by
  have hri:=hr i (by omega)
  have hrest:=row_rest r (i+1) n (fun j hj=>hr j (by omega))
  show parseG (N+1) (32::(relL (r i)++32::(49+i)::rowS r (i+1) n)) out=_
  unfold parseG
  rw [blank_sp,blank_rel hri]
  have hne: ¬(relL (r i)++32::(49+i)::rowS r (i+1) n= []):=by simp
  have hoe:out.isEmpty=false:=by cases out with
   |nil=>exact absurd rfl ho
   |cons _ _=>rfl
  rw [if_neg hne,hoe,rule_row hri (by unfold alnC;omega) hrest]
  dsimp only
  rw [parse_row r n (i+1) N (out++ [(⟨1+r i,[49+i],[]⟩:Rul)]) (by simp) (by omega) (by omega) (fun j hj=>hr j (by omega)),List.append_assoc]
  rfl
theorem rowS_len (r:Nat→Nat): ∀(n i:Nat),n≤(rowS r i n).length
 |0,_=>Nat.zero_le _
 |n+1,i=>by
  have:=rowS_len r n (i+1)
  show n+1≤(32::(relL (r i)++32::(49+i)::rowS r (i+1) n)).length
  simp only [List.length_cons,List.length_append]
  omega
theorem parse_rows (r:Nat→Nat) (n:Nat) (hn:n≤8) (hr: ∀j,j<n→1≤r j∧r j≤4):parseS (38::32::109::rowS r 0 n)=(⟨1,[109],[]⟩::rowRul r 0 n,none):=by
 have hrest:=row_rest r 0 n (fun j hj=>hr j (by omega))
 unfold parseS
 show parseG ((rowS r 0 n).length+1+1+1+1) _ []=_
 rw [parseG,show blankS (38::32::109::rowS r 0 n)=38::32::109::rowS r 0 n by rw [blankS_cons];rfl,if_neg (by simp)]
 have r1:ruleS true (38::32::109::rowS r 0 n)=(some ⟨1,[109],[]⟩,rowS r 0 n):=by
  unfold ruleS
  have hrel:relS (38::32::109::rowS r 0 n)=(1,32::109::rowS r 0 n):=rfl
  rw [hrel,if_neg (by simp)]
  dsimp only
  rw [seq_row (by unfold alnC;omega) hrest]
  rfl
 rw [show ([]:List Rul).isEmpty=true from rfl,r1]
 dsimp only
 rw [parse_row r n 0 _ _ (by simp) (by have:=rowS_len r n 0;omega) (by omega) (fun j hj=>hr j (by omega))]
 rfl
end Go.Ux
namespace Go.Proofs.YtclffhpdekepkaaGreatDoor
open Go.RowKit
open Ux (Ent sv findE putE okE okT SortedE elemsE rootT eLetter eMk stepA raise incW mapE newK lastN lastW fullT wF keepW wt8 eP eS eT eV cmpL)
open Ux.Rules (Rul)
theorem RowsT.check {i:Nat} {r:Nat→Nat} {T:List Ent} {d:Nat→Nat} {en el:Nat} (h:RowsT i r T d en el) (hi:i≤8):checkE T=true:=
 checkE_single h.one fun e he=>by
  rw [List.any_eq_false]
  intro x hx
  have hv:=h.vals e he x hx
  unfold badW
  rw [hv.2.2.2.2,decide_eq_false (by have:=hv.2.1;omega)]
  simp
theorem rows_apply (r:Nat→Nat): ∀(n i:Nat) (T:List Ent) (d:Nat→Nat) (en el:Nat),RowsT i r T d en el→i+n≤8→(∀j,j<i+n→1≤r j∧r j≤4)→
 ∃T' d' en' el',applyT T [d i] (Ux.rowRul r i n)=(0,T')∧RowsT (i+n) r T' d' en' el'
 |0,i,T,d,en,el,h,hi,_=>⟨T,d,en,el,by
   show applyT T [d i] []=_
   unfold applyT
   rw [if_pos (h.check (by omega))],h⟩
 |n+1,i,T,d,en,el,h,hi,hr=>by
  have hri:=hr i (by omega)
  have hs: ∃T' d' en' el',ruleT T [d i] ⟨1+r i,[49+i],[]⟩=(0,T',[d' (i+1)])∧RowsT (i+1) r T' d' en' el':=by
   by_cases h4:r i=4
   ·exact h.same (by omega) h4
   ·exact h.next (by omega) (by omega)
  obtain ⟨T1,d1,en1,el1,h1,h2⟩:=hs
  obtain ⟨T2,d2,en2,el2,h3,h4⟩:=rows_apply r n (i+1) T1 d1 en1 el1 h2 (by omega) (fun j hj=>hr j (by omega))
  refine ⟨T2,d2,en2,el2,?_,by rw [show i+(n+1)=i+1+n by omega];exact h4⟩
  show applyT T [d i] (⟨1+r i,[49+i],[]⟩::Ux.rowRul r (i+1) n)=_
  unfold applyT
  rw [h1]
  dsimp only
  rw [if_neg (by simp)]
  exact h3
theorem rows_all (r:Nat→Nat) (n:Nat) (hn:n≤8) (hr: ∀j,j<n→1≤r j∧r j≤4):
 ∃T d en el,applyT (rootT 132) [] (⟨1,[109],[]⟩::Ux.rowRul r 0 n)=(0,T)∧RowsT n r T d en el:=by
 obtain ⟨T,d,en,el,h1,h2⟩:=rows_apply r n 0 _ _ _ _ (RowsT.zero r) (by omega) (fun j hj=>hr j (by omega))
 rw [Nat.zero_add] at h2
 refine ⟨T,d,en,el,?_,h2⟩
 unfold applyT
 have h3:ruleT (rootT 132) [] ⟨1,[109],[]⟩=(0,rootT 132,[eLetter 12 2]):=rule_reset _ _ _ _ (elT_let (i:=12) (by decide)) (by simp)
 rw [h3]
 dsimp only
 rw [if_neg (by simp)]
 exact h1
theorem cmp1_is {q x y:Nat} (hx:0<wt8 q x) (hy:0<wt8 q y):cmp1 q x y=if wt8 q x<wt8 q y then-1 else if wt8 q y<wt8 q x then 1 else 0:=by
 unfold cmp1
 have k: ∀z,0<wt8 q z→wF false q [z]= [wt8 q z]:=fun z hz=>by
  unfold wF
  rw [List.filter_cons_of_pos (by unfold keepW;simpa using hz)]
  rfl
 rw [k x hx,k y hy]
 show cmpL [(wt8 q x:Int)] [(wt8 q y:Int)]=_
 unfold cmpL cmpL Ux.cmpI
 by_cases h1:wt8 q x<wt8 q y
 ·rw [if_pos h1,if_neg (by rw [if_pos (by omega)];decide),if_pos (by omega)]
 ·rw [if_neg h1]
  by_cases h2:wt8 q y<wt8 q x
  ·rw [if_pos h2,if_neg (by rw [if_neg (by omega),if_pos (by omega)];decide),if_neg (by omega),if_pos (by omega)]
  ·rw [if_neg h2,if_pos (by rw [if_neg (by omega),if_neg (by omega)])]
end Go.Proofs.YtclffhpdekepkaaGreatDoor
