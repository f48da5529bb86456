/- A part of the proof that the statement holds for every input that it names. No other condition. -/
import Derived.Test.YtfccjaboicpohaaGreatDoorUxRulAY
set_option linter.unusedVariables false
set_option linter.unusedSimpArgs false
namespace Go.Ux
open Go Go.Ux.Rules
def letC (c:Nat):Prop:=97≤c∧c≤122
theorem let_bl {c:Nat} (h:letC c):isBl c=false:=by unfold isBl;unfold letC at h;rw [beq_false_of_ne (by omega),beq_false_of_ne (by omega)];rfl
theorem let_sp {c:Nat} (h:letC c):isSp c=false:=by
 unfold isSp
 unfold letC at h
 rw [beq_false_of_ne (by omega),beq_false_of_ne (by omega),beq_false_of_ne (by omega),beq_false_of_ne (by omega),beq_false_of_ne (by omega),beq_false_of_ne (by omega)]
 rfl
theorem bl32:isBl 32=true:=rfl
theorem blank_sp (r:List Nat):blankS (32::r)=blankS r:=by rw [blankS_cons,bl32,if_pos rfl]
theorem blank_let {c:Nat} (h:letC c) (r:List Nat):blankS (c::r)=c::r:=by rw [blankS_cons,let_bl h,if_neg (by simp)]
theorem seq_one {c:Nat} (h:letC c) (r:List Nat):seqS (32::c::32::r)=(some [c],32::r):=by
 unfold seqS
 rw [blank_sp,blank_let h]
 have:seqG (c::32::r) []=(some [c],32::r):=by
  unfold seqG
  rw [let_sp h,if_neg (by simp),if_neg (by simp),if_neg (by unfold letC at h;omega)]
  cases r with
  |nil=>rfl
  |cons d r=>rfl
 rw [this]
 rfl
theorem seq_two' {c d:Nat} (h:letC c) (hd:letC d):seqS [32,c,d]=(some [c,d],[]):=by
 unfold seqS
 rw [blank_sp,blank_let h]
 have:seqG [c,d] []=(some [c,d],[]):=by
  unfold seqG
  rw [let_sp h,if_neg (by simp),if_neg (by simp),if_neg (by unfold letC at h;omega)]
  unfold seqG
  rw [let_sp hd,if_neg (by simp),if_neg (by simp),if_neg (by unfold letC at hd;omega)]
  rfl
 rw [this]
 rfl
theorem parse_two {x:Nat} (hx:letC x) {k:Nat} {t:List Nat} {s:List Nat} (hb:blankS t=t) (hne:t≠[]) (hr:(relS t).1=k) (h0:k≠0) (h1:(blankS t).head?≠some 47) (hs:seqS (relS t).2=(some s,[])):parseS (38::32::x::32::t)=([⟨1,[x],[]⟩,⟨k,s,[]⟩],none):=by
 obtain ⟨n,hn⟩: ∃n,t.length=n:=⟨_,rfl⟩
 unfold parseS
 simp only [List.length_cons,hn]
 have e1:blankS (38::32::x::32::t)=38::32::x::32::t:=by rw [blankS_cons];rfl
 have r1:ruleS true (38::32::x::32::t)=(some ⟨1,[x],[]⟩,32::t):=by
  unfold ruleS
  have hrel:relS (38::32::x::32::t)=(1,32::x::32::t):=rfl
  rw [hrel,if_neg (by simp)]
  dsimp only
  rw [seq_one hx]
  rfl
 have r2:ruleS false t=(some ⟨k,s,[]⟩,[]):=by
  unfold ruleS
  rw [hr,if_neg (show¬(k=0∨(false=true∧k≠1)) from fun h=>by rcases h with h|⟨h,_⟩;exact h0 h;cases h),hs]
  dsimp only
  rw [if_pos (.inr (by simp [blankS]))]
 show parseG (n+1+1+1+1+1) _ []=_
 rw [parseG,e1,if_neg (by simp)]
 rw [show ([]:List Rul).isEmpty=true from rfl,r1]
 dsimp only
 rw [parseG,blank_sp,hb,if_neg hne]
 rw [show (([]:List Rul)++ [(⟨1,[x],[]⟩:Rul)]).isEmpty=false from rfl,r2]
 dsimp only
 rw [parseG]
 rfl
theorem parse_pair {x y z:Nat} (hx:letC x) (hy:letC y) (hz:letC z):parseS [38,32,x,32,60,32,y,z]=([⟨1,[x],[]⟩,⟨2,[y,z],[]⟩],none):=
 parse_two hx (t:= [60,32,y,z]) rfl (by simp) (by rfl) (by decide) (by rw [show blankS [60,32,y,z]= [60,32,y,z] from rfl];simp) (seq_two' hy hz)
theorem findE_put {T:List Ent} {s l:List Nat} (hs:SortedE T) (ho:okT T) (hn:okE (s,l)) (t:List Nat):findE (putE T s l) t=if t=s then some l else findE T t:=by
 have hok:=putE_ok hs ho hn
 by_cases h:t=s
 ·rw [if_pos h,h]
  exact findE_mem hok.1 ((putE_mem hs _).2 (.inl rfl))
 ·rw [if_neg h]
  cases hf:findE T t with
  |some l'=>exact findE_mem hok.1 ((putE_mem hs (t,l')).2 (.inr ⟨findE_some hf,h⟩))
  |none=>
   cases hp:findE (putE T s l) t with
   |none=>rfl
   |some l'=>
    rcases (putE_mem hs _).1 (findE_some hp) with e|⟨e,_⟩
    ·exact absurd (Prod.mk.inj e).1 h
    ·exact absurd rfl (findE_none hf _ e)
theorem rootT_one: ∀e∈rootT 132,e.1.length=1:=fun e he=>rootE_one e (rootT_perm.mem_iff.2 he)
end Go.Ux
