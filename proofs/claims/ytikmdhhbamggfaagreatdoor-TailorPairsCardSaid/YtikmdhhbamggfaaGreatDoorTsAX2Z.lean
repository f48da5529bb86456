/- A part of the proof that the statement holds for every input that it names. No other condition. -/
import Derived.Test.YtikmdhhbamggfaaGreatDoorTsAZ
import Derived.Test.YtikmdhhbamggfaaGreatDoorUxCollAX2Z
import Derived.Test.YtikmdhhbamggfaaGreatDoorReadAX2Z
set_option linter.unusedVariables false
set_option linter.unusedSimpArgs false
namespace Go.Ux
open Go Go.Ux.Rules
theorem seq_one' {c:Nat} (h:letC c):seqS [32,c]=(some [c],[]):=by
 unfold seqS
 rw [blank_sp,blank_let h]
 have:seqG [c] []=(some [c],[]):=by
  unfold seqG
  rw [let_sp h,if_neg (by simp),if_neg (by simp),if_neg (by unfold letC at h;omega)]
  rfl
 rw [this]
 rfl
theorem parse_same {x y:Nat} (hx:letC x) (hy:letC y):parseS [38,32,x,32,61,32,y]=([⟨1,[x],[]⟩,⟨5,[y],[]⟩],none):=
 parse_two hx (t:= [61,32,y]) rfl (by simp) rfl (by decide) (by rw [show blankS [61,32,y]= [61,32,y] from rfl];simp) (seq_one' hy)
theorem findE_put {T:List Ent} {s l:List Nat} (hs:SortedE T) (ho:okT T) (hn:okE (s,l)) (t:List Nat):findE (putE T s l) t=if t=s then some l else findE T t:=by
 have hok:=putE_ok hs ho hn
 by_cases h:t=s
 ·rw [if_pos h,h]
  exact findE_mem hok.1 ((putE_mem hs _).2 (.inl rfl))
 ·rw [if_neg h]
  cases hf:findE T t with
  |some l'=>exact findE_mem hok.1 ((putE_mem hs (t,l')).2 (.inr ⟨findE_some hf,h⟩))
  |none=>
   cases hp:findE (putE T s l) t with
   |none=>rfl
   |some l'=>
    rcases (putE_mem hs _).1 (findE_some hp) with e|⟨e,_⟩
    ·exact absurd (Prod.mk.inj e).1 h
    ·exact absurd rfl (findE_none hf _ e)
theorem findT_letter {i:Nat} (hi:i<26):findE (rootT 132) [97+i]=some [eLetter i 2]:=by rw [←findE_perm rootE_nodup rootT_perm];exact root_letter i hi
theorem findT_great {i:Nat} (hi:i<26):findE (rootT 132) [65+i]=some [eLetter i 8]:=by rw [←findE_perm rootE_nodup rootT_perm];exact root_great i hi
theorem rootT_one: ∀e∈rootT 132,e.1.length=1:=fun e he=>rootE_one e (rootT_perm.mem_iff.2 he)
end Go.Ux
namespace Go.Proofs.YtikmdhhbamggfaaGreatDoor
open Go.RowKit
open Ux (Row Ent sv ev findE putE okE okT SameE SortedE elemsE rootT eLetter letC stepA raise mapE newK wghC wts wF keepW wt8 eP)
open Ux.Sign (cp raw signs)
open Ux.Rules (Rul parseS)
theorem keyOk_let: ∀i,i<26→keyOk (sv [97+i])=true:=by decide+kernel
theorem keyOk_two: ∀i,i<26→∀j,j<26→keyOk (sv [97+i,97+j])=true:=by decide+kernel
theorem rootT_bad:((rootT 132).all fun e=> !(e.2.any badW))=true:=by decide+kernel
theorem let_bad: ∀i,i<26→([eLetter i 2]).any badW=false:=by decide+kernel
theorem rootT_okT:okT (rootT 132):=Ux.same_root.ok ⟨Ux.rootE_nodup,Ux.rootE_ok⟩
theorem elT_let {i:Nat} (hi:i<26):elemsE (rootT 132) [97+i]= [eLetter i 2]:=by
 rw [Ux.elems_single Ux.rootT_one]
 simp [Ux.findT_letter hi]
theorem okE_one {c:Nat} (hc:c<1114368) {l:List Nat} (hl:l.length≤8) (hx: ∀x∈l,x<4294967296):okE ([c],l):=⟨⟨by simp,by simp,fun d hd=>by simp at hd;omega⟩,hl,hx⟩
theorem letter_lt: ∀i,i<26→eLetter i 2<4294967296:=by decide+kernel
def sameT (i j:Nat):List Ent:=putE (rootT 132) [97+j] [eLetter i 2]
theorem sameT_find {i j:Nat} (hi:i<26) (hj:j<26) (t:List Nat):findE (sameT i j) t=if t= [97+j] then some [eLetter i 2] else findE (rootT 132) t:=
 Ux.findE_put (Ux.rootT_sorted 132) rootT_okT (okE_one (by omega) (by simp) (fun x hx=>by simp at hx;rw [hx];exact letter_lt i hi)) t
theorem sameT_mem {i j:Nat} {e:Ent} (he:e∈sameT i j):e=([97+j],[eLetter i 2])∨e∈rootT 132:=by
 unfold sameT at he
 rcases (Ux.putE_mem (Ux.rootT_sorted 132) e).1 he with h|⟨h,_⟩
 ·exact .inl h
 ·exact .inr h
theorem sameT_one {i j:Nat}: ∀e∈sameT i j,e.1.length=1:=fun e he=>by
 rcases sameT_mem he with rfl|h
 ·rfl
 ·exact Ux.rootT_one e h
theorem checkE_single {T:List Ent} (h1: ∀e∈T,e.1.length=1) (h2: ∀e∈T,e.2.any badW=false):checkE T=true:=by
 unfold checkE
 rw [List.all_eq_true]
 intro e he
 refine goodEnt_yes (fun n hn h0=> ?_) (h2 e he)
 have:=h1 e he
 omega
theorem sameT_check {i j:Nat} (hi:i<26):checkE (sameT i j)=true:=checkE_single sameT_one fun e he=>by
 rcases sameT_mem he with rfl|h
 ·exact let_bad i hi
 ·have:=List.all_eq_true.1 rootT_bad e h
  simpa using this
theorem rule_same (T:List Ent) (a s:List Nat) (hc:codeE T (sv s) a=0):ruleT T a ⟨5,s,[]⟩=(0,putE T s a,a):=by
 unfold ruleT
 dsimp only
 rw [if_neg (by decide),if_neg (show¬((5:Nat)<5) by decide)]
 dsimp only
 rw [if_neg (by simp),show elemsE T []= [] from rfl,List.append_nil,hc,if_neg (by simp)]
theorem rule_less (T T':List Ent) (a a' s:List Nat) (hs:stepA T a 1=(0,T',a')) (hc:codeE T' (sv s) a'=0):ruleT T a ⟨2,s,[]⟩=(0,putE T' s a',a'):=by
 unfold ruleT
 dsimp only
 rw [if_neg (by decide),if_pos (show ((2:Nat)<5) by decide),show 2-1=1 from rfl,hs]
 dsimp only
 rw [if_neg (by simp),show elemsE T' []= [] from rfl,List.append_nil,hc,if_neg (by simp)]
theorem rule_reset (T:List Ent) (a s l:List Nat) (h:elemsE T s=l) (h8:l.length≤8):ruleT T a ⟨1,s,[]⟩=(0,T,l):=by
 unfold ruleT
 dsimp only
 rw [if_pos rfl,h,if_neg (by omega)]
theorem apply_two (T T1 T2:List Ent) (a a1 a2:List Nat) (x y:Rul) (h1:ruleT T a x=(0,T1,a1)) (h2:ruleT T1 a1 y=(0,T2,a2)) (hc:checkE T2=true):applyT T a [x,y]=(0,T2):=by
 unfold applyT
 rw [h1]
 dsimp only
 rw [if_neg (by simp)]
 unfold applyT
 rw [h2]
 dsimp only
 rw [if_neg (by simp)]
 unfold applyT
 rw [hc,if_pos rfl]
theorem apply_same {i j:Nat} (hi:i<26) (hj:j<26):applyT (rootT 132) [] [⟨1,[97+i],[]⟩,⟨5,[97+j],[]⟩]=(0,sameT i j):=by
 have h1:ruleT (rootT 132) [] ⟨1,[97+i],[]⟩=(0,rootT 132,[eLetter i 2]):=rule_reset _ _ _ _ (elT_let hi) (by simp)
 have hc:codeE (rootT 132) (sv [97+j]) [eLetter i 2]=0:=by
  unfold codeE
  rw [keyOk_let j hj,if_neg (by simp),if_neg (fun h=>by have:=Ux.rootT_len 132;omega)]
 have h2:ruleT (rootT 132) [eLetter i 2] ⟨5,[97+j],[]⟩=(0,sameT i j,[eLetter i 2]):=rule_same _ _ _ hc
 exact apply_two _ _ _ _ _ _ _ _ h1 h2 (sameT_check hi)
theorem read_same {i j:Nat} (hi:i<26) (hj:j<26) (l:List Nat) (hs:l= [38,32,97+i,32,61,32,97+j]):readT l=(0,sameT i j):=by
 unfold readT
 rw [hs,Ux.parse_same (by unfold letC;omega) (by unfold letC;omega)]
 dsimp only
 rw [if_neg (by simp),apply_same hi hj]
theorem same_elems {i j:Nat} (hi:i<26) (hj:j<26) (p q:List Nat):elemsE (sameT i j) (p++(97+i)::q)=elemsE (sameT i j) (p++(97+j)::q):=by
 rw [Ux.elems_single sameT_one,Ux.elems_single sameT_one,List.flatMap_append,List.flatMap_append,List.flatMap_cons,List.flatMap_cons]
 have h1:findE (sameT i j) [97+i]=some [eLetter i 2]:=by
  rw [sameT_find hi hj]
  split
  ·rfl
  ·exact Ux.findT_letter hi
 have h2:findE (sameT i j) [97+j]=some [eLetter i 2]:=by rw [sameT_find hi hj,if_pos rfl]
 simp only [h1,h2,Option.getD_some]
theorem same_great {i j:Nat} (hi:i<26) (hj:j<26):elemsE (sameT i j) [65]= [eLetter 0 8]∧elemsE (sameT i j) [66]= [eLetter 1 8]:=by
 rw [Ux.elems_single sameT_one,Ux.elems_single sameT_one]
 have h1:findE (sameT i j) [65]=some [eLetter 0 8]:=by
  rw [sameT_find hi hj,if_neg (by simp;omega)]
  exact Ux.findT_great (i:=0) (by decide)
 have h2:findE (sameT i j) [66]=some [eLetter 1 8]:=by
  rw [sameT_find hi hj,if_neg (by simp;omega)]
  exact Ux.findT_great (i:=1) (by decide)
 simp [h1,h2]
theorem great_AB:wghC false false [eLetter 0 8] [eLetter 1 8] 1 3= -1:=by decide+kernel
theorem wgh_refl (l:List Nat) (n lv:Nat):wghC false false l l lv n=0:=Ux.wgh_same (fun _=>rfl) n lv
end Go.Proofs.YtikmdhhbamggfaaGreatDoor
namespace Go.Proofs.YtikmdhhbamggfaaGreatDoor
open Go.RowKit
open Ux (Row Ent sv ev findE putE okE okT SameE SortedE elemsE ofE atE longE rootT eLetter eMk letC stepA raise mapE newK lastN fullT wghC wts wF keepW wt8 eP implE cmpL)
open Ux.Sign (cp raw signs)
open Ux.Rules (Rul parseS)
theorem findE_map (F:Nat→Nat) (T:List Ent) (t:List Nat):findE (mapE F T) t=(findE T t).map (List.map F):=by
 unfold findE mapE
 rw [List.find?_map,Option.map_map,Option.map_map]
 rfl
theorem step_let: ∀i,i<26→lastN 1 [eLetter i 2] 1=some 0∧¬(64256≤eP (eLetter i 2))∧wt8 1 (eLetter i 2)=256+8*i∧newK 1 (eLetter i 2)<4294967296∧[newK 1 (eLetter i 2)].any badW=false:=by decide+kernel
theorem full_root:fullT 1 (rootT 132)=false:=by decide+kernel
theorem step_pair {i:Nat} (hi:i<26):stepA (rootT 132) [eLetter i 2] 1=(0,mapE (raise 1 (256+8*i)) (rootT 132),[newK 1 (eLetter i 2)]):=by
 obtain ⟨h1,h2,h3,_⟩:=step_let i hi
 unfold stepA
 have h1:lastN 1 [eLetter i 2] [eLetter i 2].length=some 0:=h1
 rw [h1]
 dsimp only
 have e: [eLetter i 2].getD 0 0=eLetter i 2:=rfl
 rw [e,if_neg (fun h=>h2 h.2),full_root,if_neg (by simp),h3]
 rfl
def pairT (i j k:Nat):List Ent:=putE (mapE (raise 1 (256+8*i)) (rootT 132)) [97+j,97+k] [newK 1 (eLetter i 2)]
theorem mapT_sorted (i:Nat):SortedE (mapE (raise 1 (256+8*i)) (rootT 132)):=Ux.mapE_sorted _ (Ux.rootT_sorted 132)
theorem mapT_ok (i:Nat):okT (mapE (raise 1 (256+8*i)) (rootT 132)):=Ux.mapE_ok (fun x hx=>Ux.raise_lt _ _ x hx) rootT_okT
theorem okE_pair {i j k:Nat} (hi:i<26) (hj:j<26) (hk:k<26):okE ([97+j,97+k],[newK 1 (eLetter i 2)]):=⟨⟨by simp,by simp,fun d hd=>by simp at hd;omega⟩,by simp,fun x hx=>by simp at hx;rw [hx];exact (step_let i hi).2.2.2.1⟩
theorem pairT_find {i j k:Nat} (hi:i<26) (hj:j<26) (hk:k<26) (t:List Nat):findE (pairT i j k) t=if t= [97+j,97+k] then some [newK 1 (eLetter i 2)] else (findE (rootT 132) t).map (List.map (raise 1 (256+8*i))):=by
 unfold pairT
 rw [Ux.findE_put (mapT_sorted i) (mapT_ok i) (okE_pair hi hj hk) t,findE_map]
theorem mapT_bad: ∀i,i<26→((mapE (raise 1 (256+8*i)) (rootT 132)).all fun e=> !(e.2.any badW))=true:=by decide+kernel
theorem pairT_let {i j k m:Nat} (hi:i<26) (hj:j<26) (hk:k<26) (hm:m<26):findE (pairT i j k) [97+m]=some [raise 1 (256+8*i) (eLetter m 2)]:=by
 rw [pairT_find hi hj hk,if_neg (by simp),Ux.findT_letter hm]
 rfl
theorem root_digit: ∀d,d<10→findE (rootT 132) [48+d]=some [eMk (128+4*d) 32 2 false]:=by
 intro d hd
 rw [←Ux.findE_perm Ux.rootE_nodup Ux.rootT_perm]
 revert d
 decide+kernel
theorem raise_digit: ∀i,i<26→∀d,d<10→raise 1 (256+8*i) (eMk (128+4*d) 32 2 false)=eMk (128+4*d) 32 2 false:=by decide+kernel
theorem pairT_digit {i j k d:Nat} (hi:i<26) (hj:j<26) (hk:k<26) (hd:d<10):findE (pairT i j k) [48+d]=some [eMk (128+4*d) 32 2 false]:=by
 rw [pairT_find hi hj hk,if_neg (by simp),root_digit d hd]
 show some [raise 1 (256+8*i) (eMk (128+4*d) 32 2 false)]=_
 rw [raise_digit i hi d hd]
theorem pairT_none {i j k:Nat} (hi:i<26) (hj:j<26) (hk:k<26) {t:List Nat} (h1:t.length≠1) (h2:t≠[97+j,97+k]):findE (pairT i j k) t=none:=by
 rw [pairT_find hi hj hk,if_neg h2,Ux.findE_len Ux.rootT_one h1]
 rfl
theorem pairT_check {i j k:Nat} (hi:i<26) (hj:j<26) (hk:k<26):checkE (pairT i j k)=true:=by
 unfold checkE
 rw [List.all_eq_true]
 intro e he
 have he2:=he
 unfold pairT at he2
 rcases (Ux.putE_mem (mapT_sorted i) e).1 he2 with rfl|⟨he',_⟩
 ·refine goodEnt_yes (fun n hn h0=> ?_) (step_let i hi).2.2.2.2
  have hn:n<2:=hn
  have:n=1:=by omega
  subst this
  show (findE (pairT i j k) [97+j]).isSome=true
  rw [pairT_let hi hj hk hj]
  rfl
 ·refine goodEnt_yes (fun n hn h0=> ?_) ?_
  ·obtain ⟨d,hd,rfl⟩:=List.mem_map.1 he'
   have:=Ux.rootT_one d hd
   dsimp only at hn
   omega
  ·have:=List.all_eq_true.1 (mapT_bad i hi) e he'
   simpa using this
theorem apply_pair {i j k:Nat} (hi:i<26) (hj:j<26) (hk:k<26):applyT (rootT 132) [] [⟨1,[97+i],[]⟩,⟨2,[97+j,97+k],[]⟩]=(0,pairT i j k):=by
 have h1:ruleT (rootT 132) [] ⟨1,[97+i],[]⟩=(0,rootT 132,[eLetter i 2]):=rule_reset _ _ _ _ (elT_let hi) (by simp)
 have hc:codeE (mapE (raise 1 (256+8*i)) (rootT 132)) (sv [97+j,97+k]) [newK 1 (eLetter i 2)]=0:=by
  unfold codeE
  rw [keyOk_two j hj k hk,if_neg (by simp),if_neg (fun h=>by have:=Ux.rootT_len 132;have h:=h.2;rw [Ux.mapE_len] at h;omega)]
 exact apply_two _ _ _ _ _ _ _ _ h1 (rule_less _ _ _ _ _ (step_pair hi) hc) (pairT_check hi hj hk)
theorem read_pair {i j k:Nat} (hi:i<26) (hj:j<26) (hk:k<26) (l:List Nat) (hs:l= [38,32,97+i,32,60,32,97+j,97+k]):readT l=(0,pairT i j k):=by
 unfold readT
 rw [hs,Ux.parse_pair (by unfold letC;omega) (by unfold letC;omega) (by unfold letC;omega)]
 dsimp only
 rw [if_neg (by simp),apply_pair hi hj hk]
theorem elems_one {T:List Ent} {c:Nat} {l:List Nat} (h:findE T [c]=some l):elemsE T [c]=l:=by
 show ofE T [c] 0 1=l
 unfold ofE
 have ha:atE T [c] 0=(l,1):=by
  unfold atE
  show (longE T [c] 0 1).getD _=_
  rw [Ux.longE_some (by decide) (l:=l) (by exact h)]
  rfl
 rw [if_neg (by simp),ha]
 show l++ []=l
 rw [List.append_nil]
theorem elems_two {T:List Ent} {c d:Nat} {l:List Nat} (h:findE T [c,d]=some l):elemsE T [c,d]=l:=by
 show ofE T [c,d] 0 2=l
 unfold ofE
 have ha:atE T [c,d] 0=(l,2):=by
  unfold atE
  show (longE T [c,d] 0 2).getD _=_
  rw [Ux.longE_some (by decide) (l:=l) (by exact h)]
  rfl
 rw [if_neg (by simp),ha]
 show l++ofE T [c,d] 2 1=l
 unfold ofE
 rw [if_pos (by simp),List.append_nil]
theorem elems_three {T:List Ent} {a b c:Nat} {l m n:List Nat} (h3:findE T [a,b,c]=none) (h2:findE T [a,b]=none) (h2':findE T [b,c]=none) (ha:findE T [a]=some l) (hb:findE T [b]=some m) (hc:findE T [c]=some n):elemsE T [a,b,c]=l++(m++n):=by
 have a0:atE T [a,b,c] 0=(l,1):=by
  unfold atE
  show (longE T [a,b,c] 0 3).getD _=_
  rw [Ux.longE_none (by decide) (by exact h3)]
  show (longE T [a,b,c] 0 2).getD _=_
  rw [Ux.longE_none (by decide) (by exact h2)]
  show (longE T [a,b,c] 0 1).getD _=_
  rw [Ux.longE_some (by decide) (l:=l) (by exact ha)]
  rfl
 have a1:atE T [a,b,c] 1=(m,1):=by
  unfold atE
  show (longE T [a,b,c] 1 2).getD _=_
  rw [Ux.longE_none (by decide) (by exact h2')]
  show (longE T [a,b,c] 1 1).getD _=_
  rw [Ux.longE_some (by decide) (l:=m) (by exact hb)]
  rfl
 have a2:atE T [a,b,c] 2=(n,1):=by
  unfold atE
  show (longE T [a,b,c] 2 1).getD _=_
  rw [Ux.longE_some (by decide) (l:=n) (by exact hc)]
  rfl
 show ofE T [a,b,c] 0 3=_
 unfold ofE
 rw [if_neg (by simp),a0]
 show l++ofE T [a,b,c] 1 2=_
 unfold ofE
 rw [if_neg (by simp),a1]
 show l++(m++ofE T [a,b,c] 2 1)=_
 unfold ofE
 rw [if_neg (by simp),a2]
 show l++(m++(n++ []))=_
 rw [List.append_nil]
theorem pair_x {i j k:Nat} (hi:i<26) (hj:j<26) (hk:k<26):elemsE (pairT i j k) [97+j,97+k]= [newK 1 (eLetter i 2)]:=elems_two (by rw [pairT_find hi hj hk,if_pos rfl])
theorem pair_1: ∀i,i<26→wghC false false [raise 1 (256+8*i) (eLetter i 2)] [newK 1 (eLetter i 2)] 1 3= -1:=by decide+kernel
theorem pair_2: ∀i,i<26→∀m,m<26→wghC false false [newK 1 (eLetter i 2)] [raise 1 (256+8*i) (eLetter m 2)] 1 3=if m≤i then 1 else-1:=by decide+kernel
theorem pair_3 (x:List Nat) (a b:Nat) (ha:keepW false 1 a=true) (hb:keepW false 1 b=true) (hab:wt8 1 a<wt8 1 b) (y z:List Nat) (n:Nat):wghC false false (x++(a::y)) (x++(b::z)) 1 (n+1)= -1:=by
 refine Ux.wgh_first ?_ (by decide)
 rw [Ux.wts1,Ux.wts1,Ux.wF_app,Ux.wF_app,Ux.wF_cons,Ux.wF_cons,ha,hb,if_pos rfl,if_pos rfl]
 simp only [Ux.sv_append]
 rw [Ux.cmpL_app]
 exact Ux.cmpL_lt (show ((wt8 1 a:Nat):Int)<((wt8 1 b:Nat):Int) by omega) _ _
theorem dig_w:(keepW false 1 (eMk 132 32 2 false)=true∧wt8 1 (eMk 132 32 2 false)=132)∧keepW false 1 (eMk 136 32 2 false)=true∧wt8 1 (eMk 136 32 2 false)=136:=by decide+kernel
theorem pair_dig {i j k:Nat} (hi:i<26) (hj:j<26) (hk:k<26):wghC false false (elemsE (pairT i j k) [97+j,49,97+k]) (elemsE (pairT i j k) [97+j,50,97+k]) 1 3= -1:=by
 rw [elems_three (pairT_none hi hj hk (by simp) (by simp)) (pairT_none hi hj hk (by simp) (by simp;omega)) (pairT_none hi hj hk (by simp) (by simp;omega)) (pairT_let hi hj hk hj) (pairT_digit (d:=1) hi hj hk (by decide)) (pairT_let hi hj hk hk)]
 rw [elems_three (pairT_none hi hj hk (by simp) (by simp)) (pairT_none hi hj hk (by simp) (by simp;omega)) (pairT_none hi hj hk (by simp) (by simp;omega)) (pairT_let hi hj hk hj) (pairT_digit (d:=2) hi hj hk (by decide)) (pairT_let hi hj hk hk)]
 exact pair_3 _ _ _ dig_w.1.1 dig_w.2.1 (by rw [dig_w.1.2,dig_w.2.2];decide) _ _ 2
end Go.Proofs.YtikmdhhbamggfaaGreatDoor
