/- A part of the proof that the statement holds for every input that it names. No other condition. -/
import Derived.Test.YtfccjaboicpohaaGreatDoorUxRulAY
import Derived.Test.YtfccjaboicpohaaGreatDoorRefBY
import Derived.Test.YtfccjaboicpohaaGreatDoorMapsAY
import Derived.Test.YtfccjaboicpohaaGreatDoorUxKeyAY
import Derived.Test.YtfccjaboicpohaaGreatDoorPrsAY
set_option linter.unusedVariables false
set_option linter.unusedSimpArgs false
namespace Go.Proofs.YtfccjaboicpohaaGreatDoor
open Go.RowKit
open Ux (Row Ent sv ev findE putE setE okE okT SameE SortedE elemsE stepA anchorOk raise mapE lastN newK)
open Ux.Sign (cp raw)
open Ux.Rules (Rul okRul okRuls okQ)
theorem sig_lt {s:List Nat} (h: ∀c∈s,cp c∨raw c): ∀c∈s,c<1114368:=fun c hc=>by
 have:=h c hc
 unfold cp raw at this
 omega
def ruleT (T:List Ent) (a:List Nat) (x:Rul):Nat×List Ent×List Nat:=
 if x.rel=1 then (if 8<(elemsE T x.seq).length then (1,T,a) else (0,T,elemsE T x.seq))
 else
  let s:=if x.rel<5 then stepA T a (x.rel-1) else (0,T,a)
  if s.1≠0 then (s.1,T,a)
  else
   let l:=s.2.2++elemsE s.2.1 x.exp
   if codeE s.2.1 (sv x.seq) l≠0 then (codeE s.2.1 (sv x.seq) l,T,a) else (0,putE s.2.1 x.seq l,s.2.2)
def applyT:List Ent→List Nat→List Rul→Nat×List Ent
 |T,_,[]=>if checkE T=true then (0,T) else (3,T)
 |T,a,x::l=>if (ruleT T a x).1≠0 then ((ruleT T a x).1,T) else applyT (ruleT T a x).2.1 (ruleT T a x).2.2 l
structure InvT (T:List Ent) (a:List Nat):Prop where
 sorted:SortedE T
 ok:okT T
 sig: ∀e∈T,∀c∈e.1,cp c∨raw c
 len:T.length≤500
 alen:a.length≤8
 anchor:anchorOk T a
theorem InvT.root:InvT (Ux.rootT 132) []:=⟨Ux.rootT_sorted 132,Ux.same_root.ok ⟨Ux.rootE_nodup,Ux.rootE_ok⟩,fun e he c hc=>rootE_sig e (Ux.rootT_perm.mem_iff.2 he) c hc,by have:=Ux.rootT_len 132;omega,by simp,anchorOk.nil _⟩
theorem lastN_step {L:Nat} {a:List Nat} {k:Nat} (h:lastN L a a.length=some k):k<a.length∧a.getD k 0∈a:=by
 have h1:=(Ux.lastN_lt h).1
 refine ⟨h1,?_⟩
 rw [List.getD_eq_getElem?_getD,List.getElem?_eq_getElem h1]
 exact List.getElem_mem h1
theorem mapE_sig {F:Nat→Nat} {T:List Ent} (h: ∀e∈T,∀c∈e.1,cp c∨raw c): ∀e∈mapE F T,∀c∈e.1,cp c∨raw c:=fun e he=>by
 unfold mapE at he
 obtain ⟨e',he',rfl⟩:=List.mem_map.1 he
 exact h e' he'
theorem stepA_ok {T:List Ent} {a:List Nat} (h:InvT T a) (L:Nat) (h0:(stepA T a L).1=0):
 SortedE (stepA T a L).2.1∧okT (stepA T a L).2.1∧(∀e∈(stepA T a L).2.1,∀c∈e.1,cp c∨raw c)∧(stepA T a L).2.1.length=T.length∧(stepA T a L).2.2.length≤a.length∧∀x∈(stepA T a L).2.2,x<4294967296:=by
 unfold stepA at h0⊢
 cases hl:lastN L a a.length with
 |none=>rw [hl] at h0;cases h0
 |some k=>
  rw [hl] at h0
  obtain ⟨hk,hm⟩:=lastN_step hl
  dsimp only at h0⊢
  split at h0
  ·cases h0
  ·rename_i h1
   split at h0
   ·cases h0
   ·rename_i h2
    rw [if_neg h1,if_neg h2]
    refine ⟨Ux.mapE_sorted _ h.sorted,Ux.mapE_ok (fun x hx=>Ux.raise_lt _ _ x hx) h.ok,mapE_sig h.sig,Ux.mapE_len _ _,?_,fun x hx=> ?_⟩
    ·rw [List.length_set,List.length_map,List.length_take]
     omega
    ·have ha: ∀y∈a,y<4294967296:=fun y hy=>(h.anchor y hy).1
     rcases List.mem_or_eq_of_mem_set hx with hx|rfl
     ·obtain ⟨y,hy,rfl⟩:=List.mem_map.1 hx
      exact Ux.raise_lt _ _ y (ha y (List.mem_of_mem_take hy))
     ·exact Ux.newK_lt _ _ (ha _ hm) fun e=>by
       have: ¬64256≤Ux.eP (a.getD k 0):=fun h3=>h1 ⟨e,h3⟩
       omega
theorem ruleT_ok {T:List Ent} {a:List Nat} (h:InvT T a) {x:Rul} (hx:okRul (fun c=>cp c∨raw c) x) (h0:(ruleT T a x).1=0):InvT (ruleT T a x).2.1 (ruleT T a x).2.2:=by
 obtain ⟨hr,⟨hs1,hs2⟩,he,hx1⟩:=hx
 unfold ruleT at h0⊢
 by_cases h1:x.rel=1
 ·rw [if_pos h1] at h0⊢
  split at h0
  ·cases h0
  ·rename_i h8
   rw [if_neg h8]
   exact ⟨h.sorted,h.ok,h.sig,h.len,Nat.le_of_not_lt h8,Ux.elems_anchor h.ok (sig_lt hs2.2)⟩
 ·rw [if_neg h1] at h0⊢
  obtain ⟨s,hs⟩: ∃s,(if x.rel<5 then stepA T a (x.rel-1) else (0,T,a))=s:=⟨_,rfl⟩
  dsimp only at h0⊢
  rw [hs] at h0⊢
  have hst:s.1=0→SortedE s.2.1∧okT s.2.1∧(∀e∈s.2.1,∀c∈e.1,cp c∨raw c)∧s.2.1.length=T.length∧s.2.2.length≤a.length∧∀y∈s.2.2,y<4294967296:=fun hz=>by
   by_cases h5:x.rel<5
   ·rw [if_pos h5] at hs
    subst hs
    exact stepA_ok h _ hz
   ·rw [if_neg h5] at hs
    subst hs
    exact ⟨h.sorted,h.ok,h.sig,rfl,Nat.le_refl _,fun y hy=>(h.anchor y hy).1⟩
  split at h0
  ·rename_i hz
   exact absurd h0 hz
  ·rename_i hz
   have hz:s.1=0:=Classical.not_not.1 hz
   rw [if_neg (fun e=>e hz)]
   obtain ⟨a1,a2,a3,a4,a5,a6⟩:=hst hz
   split at h0
   ·rename_i hc
    exact absurd h0 hc
   ·rename_i hc
    rw [if_neg hc]
    have hc:codeE s.2.1 (sv x.seq) (s.2.2++elemsE s.2.1 x.exp)=0:=Classical.not_not.1 hc
    have hlt: ∀y∈s.2.2++elemsE s.2.1 x.exp,y<4294967296:=fun y hy=>by
     rcases List.mem_append.1 hy with hy|hy
     ·exact a6 y hy
     ·exact (Ux.elems_ok a2 (sig_lt he.2)).2 y hy
    obtain ⟨b1,b2,b3,b4⟩:=step_ok (E:=s.2.1) (T:=s.2.1) ⟨List.Perm.refl _,a1⟩ a2 a3 (by have:=h.len;omega) (sv x.seq) _ hlt
    have hT:stepT s.2.1 (sv x.seq) (s.2.2++elemsE s.2.1 x.exp)=putE s.2.1 x.seq (s.2.2++elemsE s.2.1 x.exp):=by
     unfold stepT
     rw [if_pos hc,sv_nat]
    rw [hT] at b1
    have hp:=b1.1
    refine ⟨b1.2,b1.ok b2,fun e he=>b3 e (hp.mem_iff.2 he),by rw [←hp.length_eq];exact b4,by have:=h.alen;dsimp only;omega,fun y hy=>⟨a6 y hy,.inl ⟨(x.seq,s.2.2++elemsE s.2.1 x.exp),(Ux.putE_mem a1 _).2 (.inl rfl),List.mem_append.2 (.inl hy)⟩⟩⟩
end Go.Proofs.YtfccjaboicpohaaGreatDoor
namespace Go.Proofs.YtfccjaboicpohaaGreatDoor
open Go.RowKit
open Ux (Row Ent sv ev eP eS eT wt8 incW raise lastW newK)
theorem wt_wt8 (L x:Nat):wt L x=wt8 L x:=rfl
theorem withF_inc (L x:Nat):withF L x (wt8 L x+1)=incW L x:=by
 unfold withF incW wt8
 by_cases h1:L=1
 ·simp [h1]
 ·by_cases h2:L=2
  ·simp [h2]
  ·simp [h1,h2]
theorem withF_new2 (x:Nat):withF 3 (incW 2 x) 2=newK 2 x:=by
 unfold withF incW newK
 simp
 omega
theorem wt8_lt (L x:Nat) (hx:x<4294967296):wt8 L x≤65535:=by
 unfold wt8 eP eS eT
 split
 ·omega
 ·split<;>omega
set_option maxRecDepth 100000 in
theorem most_1 (w:World):Calls Tryz.prog 152 #[.int .i64 1] w fun e w'=>e= .returned (.int .i64 64255)∧w'=w:=by
 go_enter Tryz.func152,Tryz.ntmps152
 go_wp2_with (refine Ux.is_index 279 rfl ?_;refine Ux.wpList_index rfl 279 3 4 1 _ _ rfl #[.int .i64 0,.int .i64 64255,.int .i64 255,.int .i64 127] (.int .i64 64255) Tryz.underlying279 (Tryz.sizeOf3 _) (Tryz.isAgg3 _) rfl rfl (by omega) rfl ?_)
 go_returns
 exact ⟨rfl,rfl⟩
set_option maxRecDepth 100000 in
theorem most_2 (w:World):Calls Tryz.prog 152 #[.int .i64 2] w fun e w'=>e= .returned (.int .i64 255)∧w'=w:=by
 go_enter Tryz.func152,Tryz.ntmps152
 go_wp2_with (refine Ux.is_index 279 rfl ?_;refine Ux.wpList_index rfl 279 3 4 2 _ _ rfl #[.int .i64 0,.int .i64 64255,.int .i64 255,.int .i64 127] (.int .i64 255) Tryz.underlying279 (Tryz.sizeOf3 _) (Tryz.isAgg3 _) rfl rfl (by omega) rfl ?_)
 go_returns
 exact ⟨rfl,rfl⟩
set_option maxRecDepth 100000 in
theorem most_3 (w:World):Calls Tryz.prog 152 #[.int .i64 3] w fun e w'=>e= .returned (.int .i64 127)∧w'=w:=by
 go_enter Tryz.func152,Tryz.ntmps152
 go_wp2_with (refine Ux.is_index 279 rfl ?_;refine Ux.wpList_index rfl 279 3 4 3 _ _ rfl #[.int .i64 0,.int .i64 64255,.int .i64 255,.int .i64 127] (.int .i64 127) Tryz.underlying279 (Tryz.sizeOf3 _) (Tryz.isAgg3 _) rfl rfl (by omega) rfl ?_)
 go_returns
 exact ⟨rfl,rfl⟩
theorem most_ (L:Nat) (hL:L=1∨L=2∨L=3) (w:World):Calls Tryz.prog 152 #[.int .i64 (L:Int)] w fun e w'=>e= .returned (.int .i64 (lastW L:Nat))∧w'=w:=by
 rcases hL with rfl|rfl|rfl
 ·exact most_1 w
 ·exact most_2 w
 ·exact most_3 w
set_option maxHeartbeats 4000000 in
theorem mv1_ (L m x:Nat) (hL:L=1∨L=2∨L=3) (hx:x<4294967296) (bl bw:Nat) (w:World) (h1:w.cell? ⟨bl,0,none⟩=some (.int .i64 (L:Int))) (h2:w.cell? ⟨bw,0,none⟩=some (.int .i64 (m:Int))):
 Calls Tryz.prog 154 #[.int .u32 (x:Int),.pointer (some ⟨bl,0,none⟩),.pointer (some ⟨bw,0,none⟩)] w fun e w'=>e= .returned (.int .u32 (raise L m x:Nat))∧Ux.Touch (fun _=>False) w w':=by
 have HW:=Lib.hid fun W=>weight_ L x (L:Int) rfl hL hx W
 rw [wt_wt8] at HW
 have hb:=wt8_lt L x hx
 have hE:=withF_inc L x
 obtain ⟨v,hv⟩: ∃v,wt8 L x=v:=⟨_,rfl⟩
 rw [hv] at HW hb hE
 have HE:=Lib.hid fun W=>ewith_ L x (v+1) (L:Int) (x:Int) ((v:Int)+1) rfl rfl (by omega) hL hx (by omega) W
 rw [hE] at HE
 have hr:raise L m x=if m<v∧(1<L∨v≤64255) then incW L x else x:=by unfold raise;rw [hv]
 rw [hr]
 have HM:=Lib.hid fun W=>most_1 W
 have v0:(v:Int)≤65535:=by omega
 have v1:(0:Int)≤v:=by omega
 have hcase:(m<v∧1<L)∨(m<v∧¬1<L∧v≤64255)∨(m<v∧¬1<L∧¬v≤64255)∨¬m<v:=by omega
 have HX:=Lib.hid hx
 clear hv hb hE hr hx
 rcases hcase with ⟨c1,c2⟩|⟨c1,c2,c3⟩|⟨c1,c2,c3⟩|c1
 ·have k1:(v:Int)>m:=by omega
  have k2:(L:Int)>1:=by omega
  rw [if_pos ⟨c1,.inl c2⟩]
  go_enter Tryz.func154,Tryz.ntmps154
  go_wp2_with (go_at_call 44;refine (HW.out _).mono ?_;rintro e w' ⟨rfl,hw⟩;obtain rfl:=hw.symm)
  go_wp2_with (go_at_call 146;refine (HE.out _).mono ?_;rintro e w' ⟨rfl,hw⟩;obtain rfl:=hw.symm)
  go_returns
  exact ⟨rfl,Ux.Touch.refl _ _⟩
 ·have k1:(v:Int)>m:=by omega
  have k2:decide ((1:Int)<L)=false:=by simp;omega
  have k2': ¬((1:Int)<L):=by omega
  have k3:(v:Int)≤64255:=by omega
  rw [if_pos ⟨c1,.inr c3⟩]
  go_enter Tryz.func154,Tryz.ntmps154
  go_wp2_with (first|(go_at_call 44;refine (HW.out _).mono ?_;rintro e w' ⟨rfl,hw⟩;obtain rfl:=hw.symm)|(go_at_call 152;refine (HM.out _).mono ?_;rintro e w' ⟨rfl,hw⟩;obtain rfl:=hw.symm)|(go_at_call 146;refine (HE.out _).mono ?_;rintro e w' ⟨rfl,hw⟩;obtain rfl:=hw.symm))
  go_returns
  exact ⟨rfl,Ux.Touch.refl _ _⟩
 ·have k1:(v:Int)>m:=by omega
  have k2:decide ((1:Int)<L)=false:=by simp;omega
  have k2': ¬((1:Int)<L):=by omega
  have k3: ¬((v:Int)≤64255):=by omega
  rw [if_neg (fun h=>h.2.elim c2 c3)]
  go_enter Tryz.func154,Tryz.ntmps154
  go_wp2_with (first|(go_at_call 44;refine (HW.out _).mono ?_;rintro e w' ⟨rfl,hw⟩;obtain rfl:=hw.symm)|(go_at_call 152;refine (HM.out _).mono ?_;rintro e w' ⟨rfl,hw⟩;obtain rfl:=hw.symm))
  go_returns
  exact ⟨rfl,Ux.Touch.refl _ _⟩
 ·have k1: ¬((v:Int)>m):=by omega
  rw [if_neg (fun h=>c1 h.1)]
  go_enter Tryz.func154,Tryz.ntmps154
  go_wp2_with (go_at_call 44;refine (HW.out _).mono ?_;rintro e w' ⟨rfl,hw⟩;obtain rfl:=hw.symm)
  go_returns
  exact ⟨rfl,Ux.Touch.refl _ _⟩
theorem has1_ (L m x:Nat) (hL:L=1∨L=2∨L=3) (hx:x<4294967296) (bl bw:Nat) (w:World) (h1:w.cell? ⟨bl,0,none⟩=some (.int .i64 (L:Int))) (h2:w.cell? ⟨bw,0,none⟩=some (.int .i64 (m:Int))):
 Calls Tryz.prog 191 #[.int .u32 (x:Int),.pointer (some ⟨bl,0,none⟩),.pointer (some ⟨bw,0,none⟩)] w fun e w'=>e= .returned (.bool (wt8 L x==m))∧Ux.Touch (fun _=>False) w w':=by
 have HW:=Lib.hid fun W=>weight_ L x (L:Int) rfl hL hx W
 rw [wt_wt8] at HW
 obtain ⟨v,hv⟩: ∃v,wt8 L x=v:=⟨_,rfl⟩
 rw [hv] at HW⊢
 have T0:=Lib.hid ((Ux.Touch.refl (fun _=>False) w).drew)
 clear hv hx
 have HCK:=Lib.hid fun W (T:Ux.Touch (fun _=>False) w W)=>And.intro (T.cell h1 (fun f=>f)) (T.cell h2 (fun f=>f))
 obtain ⟨V,hV⟩: ∃V,(v==m)=V:=⟨_,rfl⟩
 have hV2:((v:Int)==(m:Int))=V:=by
  rw [←hV]
  by_cases h:v=m
  ·subst h
   rw [show ((v:Int)==(v:Int))=true from beq_self_eq_true _,show (v==v)=true from beq_self_eq_true _]
  ·have h2: ¬((v:Int)=m):=by omega
   rw [show ((v:Int)==(m:Int))=false from beq_false_of_ne h2,show (v==m)=false from beq_false_of_ne h]
 have hV3:decide (v=m)=V:=by rw [←hV];by_cases h:v=m<;>simp [h]
 rw [hV]
 clear hV
 go_enter Tryz.func191,Tryz.ntmps191
 go_upto_region 1 with (fail)
 refine Ux.wpr (fun _ w'=>w'.cell? ⟨bl,0,none⟩=some (.int .i64 (L:Int))∧w'.cell? ⟨bw,0,none⟩=some (.int .i64 (m:Int))) (.q [0] (.h false [1,3] (.e 2 true false (.q [4] (.line [5]))))) ?_;repeat ((with_reducible refine Ux.qg ?_);refine Ux.qu ?_)
 go_wp2_with (go_at_call 44;refine (HW.out _).mono ?_;rintro e w' ⟨rfl,hw⟩;obtain rfl:=hw.symm)
 refine ⟨HCK.out _ (by repeat (first|exact Ux.Touch.refl _ _|refine Ux.Touch.drew ?_)),?_⟩
 repeat ((with_reducible refine Ux.qg ?_);refine Ux.qu ?_)
 go_wp2
 go_returns
 exact ⟨rfl,T0.out⟩
end Go.Proofs.YtfccjaboicpohaaGreatDoor
namespace Go.Proofs.YtfccjaboicpohaaGreatDoor
open Go.RowKit
open Ux (Row Ent sv ev eP eS eT wt8 incW raise lastW newK fullT SameE SortedE findE EArr)
open Ux.Sign (cp raw)
def wB (L m x:Nat):Bool:=wt8 L x==m
set_option maxHeartbeats 2000000 in
theorem indexH (v:Value) (l:List Nat) (w:World) (h:Row w 0 56 v (ev l)) (hx: ∀x∈l,x<4294967296) (hl:l.length≤1152921504606846976) (L m:Nat) (hL:L=1∨L=2∨L=3) (bl bw:Nat) (h1:w.cell? ⟨bl,0,none⟩=some (.int .i64 (L:Int))) (h2:w.cell? ⟨bw,0,none⟩=some (.int .i64 (m:Int))):
 Calls Tryz.prog 119 #[v,.func (.func 191) #[] #[.pointer (some ⟨bl,0,none⟩),.pointer (some ⟨bw,0,none⟩)]] w fun e w'=> ∃k:Int,e= .returned (.int .i64 k)∧(decide (k≥0))=(l.any (wB L m))∧Ux.Touch (fun _=>False) w w':=by
 obtain ⟨a,cp,rfl,hcell⟩:=h.is
 rw [Ux.ev_length]
 obtain ⟨n,hn⟩: ∃n,l.length=n:=⟨_,rfl⟩
 obtain ⟨r,hr⟩: ∃r,(l.any (wB L m))=r:=⟨_,rfl⟩
 rw [hn] at hl
 rw [hn,hr]
 have HC:=Lib.hid (And.intro hcell hx)
 have HR:=Lib.hid (And.intro hr hn)
 have j0:(n:Int)≤1152921504606846976:=by omega
 clear hcell hr hn hl hx h
 go_enter Tryz.func119,Tryz.ntmps119
 go_wp2
 go_loopg [8] n (fun g s8 wr=> ∃i:Nat,s8= .int .i64 i∧i+g=n∧Hid ((l.drop i).any (wB L m)=r)∧Hid (Ux.Touch (fun _=>False) w wr))
 case atStart=>exact ⟨0,rfl,by omega,Lib.hid HR.out.1,Lib.hid (Ux.Touch.refl _ _)⟩
 case round=>
  obtain ⟨i,rfl,hig,HF,HT⟩:=hrel
  have p0:(0:Int)≤i:=by omega
  by_cases hlt:i<n
  ·obtain ⟨g',rfl⟩: ∃g',gk=g'+1:=⟨gk-1,by omega⟩
   obtain ⟨p,hp⟩: ∃p,l[i]? =some p:=⟨l[i]'(by have:=HR.out.2;omega),List.getElem?_eq_getElem (by have:=HR.out.2;omega)⟩
   obtain ⟨b,ha,_,c1⟩:=HC.out.1 i _ (Ux.ev_get hp)
   have hd:=anyN_drop hp (wB L m)
   subst ha
   have c1:=HT.out.cell c1 (fun f=>f)
   have j1:(i:Int)<n:=by omega
   obtain ⟨M,hm⟩: ∃M,(wB L m) p=M:=⟨_,rfl⟩
   have cB:=has1_ L m p hL (HC.out.2 p (List.mem_of_getElem? hp)) bl bw wr (HT.out.cell h1 (fun f=>f)) (HT.out.cell h2 (fun f=>f))
   rw [show (wt8 L p==m)=M from hm] at cB
   rw [hm] at hd
   have HD:=Lib.hid hd
   have CB:=Lib.hid cB
   clear hd hp hm cB
   cases M
   ·go_wp2_with (go_at_call 191;refine CB.out.mono ?_;rintro e w' ⟨rfl,Tz⟩;have HZ:=Lib.hid (HT.out.trans Tz fun _ _ f=>f);clear Tz)
    go_roundg g'
    case measure=>omega
    case rel=>exact ⟨i+1,rfl,by omega,Lib.hid (by have:=HD.out;simp at this;rw [←HF.out,←this]),HZ⟩
   ·go_wp2_with (go_at_call 191;refine CB.out.mono ?_;rintro e w' ⟨rfl,Tz⟩;have HZ:=Lib.hid (HT.out.trans Tz fun _ _ f=>f);clear Tz)
    go_ret
    exact ⟨_,rfl,by rw [←HF.out,HD.out];simp,HZ.out⟩
  ·have q1: ¬(i:Int)<n:=by omega
   have hr0:r=false:=by
    rw [←HF.out,List.drop_eq_nil_of_le (by have:=HR.out.2;omega)]
    rfl
   subst hr0
   clear hlt
   go_wp2
   go_ret
   exact ⟨_,rfl,by decide,HT.out⟩
theorem contH (v:Value) (l:List Nat) (w:World) (h:Row w 0 56 v (ev l)) (hx: ∀x∈l,x<4294967296) (hl:l.length≤1152921504606846976) (L m:Nat) (hL:L=1∨L=2∨L=3) (bl bw:Nat) (h1:w.cell? ⟨bl,0,none⟩=some (.int .i64 (L:Int))) (h2:w.cell? ⟨bw,0,none⟩=some (.int .i64 (m:Int))):
 Calls Tryz.prog 67 #[v,.func (.func 191) #[] #[.pointer (some ⟨bl,0,none⟩),.pointer (some ⟨bw,0,none⟩)]] w fun e w'=>e= .returned (.bool (l.any (wB L m)))∧Ux.Touch (fun _=>False) w w':=by
 have c:=Lib.hid (indexH v l w h hx hl L m hL bl bw h1 h2)
 obtain ⟨r,hr⟩: ∃r,(l.any (wB L m))=r:=⟨_,rfl⟩
 rw [hr] at c⊢
 clear hr h h1 h2
 go_enter Tryz.func67,Tryz.ntmps67
 go_wp2_with (go_at_call 119;refine c.out.mono ?_;rintro e w' ⟨k,rfl,hk,ht⟩)
 go_ret
 exact ⟨by rw [←hk];rfl,ht⟩
structure WkAt (w:World) (q:Nat) (B mb:Nat) (E:List Ent) (va:Value):Prop where
 blk:w.heap[q]? =some (.cells #[.pointer (some ⟨B,0,none⟩),va] 116 (0,0))
 tab:TableAt w B mb E
theorem WkAt.touch {w w':World} {q B mb:Nat} {E:List Ent} {va:Value} (h:WkAt w q B mb E va) (T:Ux.Touch (fun _=>False) w w'):WkAt w' q B mb E va:=⟨T.heap h.blk (fun f=>f),h.tab.touch0 T⟩
theorem WkAt.cells {w:World} {q B mb:Nat} {E:List Ent} {va:Value} (h:WkAt w q B mb E va):w.cell? ⟨q,0,none⟩=some (.pointer (some ⟨B,0,none⟩))∧w.cell? ⟨q,1,none⟩=some va:=by
 constructor
 ·rw [cell_of_row w q 0 _ _ (0,0) h.blk];rfl
 ·rw [cell_of_row w q 1 _ _ (0,0) h.blk];rfl
def hasE (L m:Nat) (E:List Ent):Bool:=E.any fun e=>e.2.any (wB L m)
theorem hasE_perm {L m:Nat} {E T:List Ent} (h:E.Perm T):hasE L m E=hasE L m T:=by
 unfold hasE
 rw [Bool.eq_iff_iff,List.any_eq_true,List.any_eq_true]
 constructor
 ·rintro ⟨e,he,h1⟩;exact ⟨e,h.mem_iff.1 he,h1⟩
 ·rintro ⟨e,he,h1⟩;exact ⟨e,h.mem_iff.2 he,h1⟩
set_option maxHeartbeats 8000000 in
set_option maxRecDepth 100000 in
theorem has_ (q B mb:Nat) (E:List Ent) (va:Value) (L m:Nat) (hL:L=1∨L=2∨L=3) (w:World) (h:WkAt w q B mb E va) (hE:E.length≤1000):
 Calls Tryz.prog 153 #[.pointer (some ⟨q,0,none⟩),.int .i64 (L:Int),.int .i64 (m:Int)] w fun e w'=>e= .returned (.bool (hasE L m E))∧Ux.Touch (fun _=>False) w w':=by
 have hok:=h.tab.1.1
 obtain ⟨bl,hbl⟩: ∃k,w.heap.size=k:=⟨_,rfl⟩
 obtain ⟨W1,hW1⟩: ∃W,w.alloc (.cells #[.int .i64 (L:Int)] 3)=W:=⟨_,rfl⟩
 have hs1:W1.heap.size=bl+1:=by rw [←hW1,World.size_alloc,hbl]
 obtain ⟨W2,hW2⟩: ∃W,W1.alloc (.cells #[.int .i64 (m:Int)] 3)=W:=⟨_,rfl⟩
 have t1:Ux.Touch (fun _=>False) w W1:=by rw [←hW1];exact (Ux.Touch.refl _ _).alloc _
 have t2:Ux.Touch (fun _=>False) W1 W2:=by rw [←hW2];exact (Ux.Touch.refl _ _).alloc _
 have T2:=t1.trans t2 fun _ _ f=>f
 have c1:W2.cell? ⟨bl,0,none⟩=some (.int .i64 (L:Int)):=t2.cell (by rw [cell_of_row W1 bl 0 _ _ (0,0) (by rw [←hW1,←hbl];exact heap_alloc_new w _)];rfl) (fun f=>f)
 have c2:W2.cell? ⟨bl+1,0,none⟩=some (.int .i64 (m:Int)):=by rw [cell_of_row W2 (bl+1) 0 _ _ (0,0) (by rw [←hW2,←hs1];exact heap_alloc_new W1 _)];rfl
 have h2:=h.touch T2
 obtain ⟨d0,d1⟩:=h2.cells
 have HEN:=Lib.hid (entries_ B mb E W2 h2.tab hE)
 have HH:=Lib.hid (And.intro hok (And.intro T2 (And.intro c1 (And.intro c2 hE))))
 have HW:=Lib.hid (And.intro hW1 (And.intro hW2 hbl))
 clear h hok t1 t2 T2 c1 c2 h2 hE
 go_enter Tryz.func153,Tryz.ntmps153
 go_wp2_with (go_at_call 57;fail)
 refine HEN.out.mono ?_
 rintro e w3 ⟨u,P,rfl,hEA,hP,_,T3⟩
 obtain ⟨hE1,a3,rfl,hE2,hE3⟩:=hEA
 obtain ⟨n,hn⟩: ∃n,P.length=n:=⟨_,rfl⟩
 rw [hn]
 have n0:(n:Int)≤1000:=by have:=hP.length_eq;have h:=HH.out.2.2.2.2;rw [List.length_map] at*;omega
 have hR:hasE L m E=hasE L m (P.map (·.2.2)):=hasE_perm hP
 obtain ⟨R,hRR⟩: ∃R,hasE L m E=R:=⟨_,rfl⟩
 have hlt: ∀p∈P,∀x∈p.2.2.2,x<4294967296:=fun p hp x hx=>(HH.out.1.2 p.2.2 (hP.mem_iff.2 (List.mem_map.2 ⟨p,hp,rfl⟩))).2.2 x hx
 have hln: ∀p∈P,p.2.2.2.length≤8:=fun p hp=>(HH.out.1.2 p.2.2 (hP.mem_iff.2 (List.mem_map.2 ⟨p,hp,rfl⟩))).2.1
 have HX:=Lib.hid (And.intro hE1 (And.intro hE2 (And.intro hn (And.intro (hRR.symm.trans hR).symm (And.intro hlt (And.intro hln T3))))))
 have HRR:=Lib.hid hRR
 clear hE1 hE2 hE3 hn hP hR hRR hlt hln T3 d0 d1
 go_wp2_with (fail)
 go_loopg [15] n (fun gk s15 wr=> ∃i:Nat,s15= .int .i64 i∧i+gk=n∧Hid (hasE L m ((P.drop i).map (·.2.2))=R∧Ux.Touch (fun _=>False) w3 wr))
 case atStart=>exact ⟨0,rfl,by omega,Lib.hid ⟨HX.out.2.2.2.1,Ux.Touch.refl _ _⟩⟩
 case round=>
  obtain ⟨i,rfl,hig,HI⟩:=hrel
  have i0:(0:Int)≤i:=by omega
  by_cases hin:i<n
  ·obtain ⟨g',rfl⟩: ∃g',gk=g'+1:=⟨gk-1,by omega⟩
   have i1:(i:Int)<n:=by omega
   obtain ⟨p,hp⟩: ∃p,P[i]? =some p:=⟨_,List.getElem?_eq_getElem (by have:=HX.out.2.2.1;omega)⟩
   have hpm:=List.mem_of_getElem? hp
   obtain ⟨ga,rfl,hga,e1,e2⟩:=HX.out.2.1 i p hp
   obtain ⟨r1,r2,r3⟩:=HX.out.1.1 p hpm
   have T:=HI.out.2
   have e1:=T.cell e1 (fun f=>f)
   have e2:=T.cell e2 (fun f=>f)
   have r2:=r2.touch0 T
   obtain ⟨b1,m1,k1,hp1⟩: ∃a n c,p.1= .slice a n c:=by obtain ⟨a,c,e,_⟩:=r1.is;exact ⟨_,_,_,e⟩
   obtain ⟨b2,m2,k2,hp2⟩: ∃a n c,p.2.1= .slice a n c:=by obtain ⟨a,c,e,_⟩:=r2.is;exact ⟨_,_,_,e⟩
   rw [hp1] at e1
   rw [hp2] at e2 r2
   obtain ⟨W4,hW4⟩: ∃W,wr.alloc (.cells #[.slice b1 m1 k1,.slice b2 m2 k2] 131)=W:=⟨_,rfl⟩
   obtain ⟨q4,hq4⟩: ∃k,wr.heap.size=k:=⟨_,rfl⟩
   have t4:Ux.Touch (fun _=>False) wr W4:=by rw [←hW4];exact (Ux.Touch.refl _ _).alloc _
   have f1:W4.cell? ⟨q4,1,none⟩=some (.slice b2 m2 k2):=by rw [cell_of_row W4 q4 1 _ _ (0,0) (by rw [←hW4,←hq4];exact heap_alloc_new wr _)];rfl
   have T4:=(HX.out.2.2.2.2.2.2.trans T fun _ _ f=>f).trans t4 fun _ _ f=>f
   have HCT:=Lib.hid (contH (.slice b2 m2 k2) p.2.2.2 W4 ((Row.mono r2 (Nat.zero_le _)).touch0 t4) (HX.out.2.2.2.2.1 p hpm) (by have:=HX.out.2.2.2.2.2.1 p hpm;omega) L m hL bl (bl+1) (T4.cell HH.out.2.2.1 (fun f=>f)) (T4.cell HH.out.2.2.2.1 (fun f=>f)))
   obtain ⟨V,hV⟩: ∃V,p.2.2.2.any (wB L m)=V:=⟨_,rfl⟩
   rw [hV] at HCT
   have hstep:hasE L m ((P.drop i).map (·.2.2))=(V||hasE L m ((P.drop (i+1)).map (·.2.2))):=by
    rw [Ux.drop_get hp,List.map_cons]
    show (p.2.2.2.any (wB L m)||_)=_
    rw [hV]
    rfl
   have HS:=Lib.hid (And.intro hstep (T.trans t4 fun _ _ f=>f))
   clear hp hpm hga r1 r2 r3 T hp1 hp2 hV hstep t4 T4 hin
   cases V with
   |true=>
    go_wp2_with (go_at_call 67;refine HCT.out.mono ?_;rintro e w5 ⟨rfl,T5⟩;have H5:=Lib.hid T5;clear T5)
    go_returns
    refine ⟨by rw [HRR.out,←HI.out.1,HS.out.1];simp,HH.out.2.1.trans (HX.out.2.2.2.2.2.2.trans (HS.out.2.trans H5.out fun _ _ f=>f) fun _ _ f=>f) fun _ _ f=>f⟩
   |false=>
    go_wp2_with (go_at_call 67;refine HCT.out.mono ?_;rintro e w5 ⟨rfl,T5⟩;have H5:=Lib.hid T5;clear T5)
    go_roundg g'
    case measure=>omega
    case rel=>exact ⟨i+1,rfl,by omega,Lib.hid ⟨by rw [←HI.out.1,HS.out.1];simp,HS.out.2.trans H5.out fun _ _ f=>f⟩⟩
  ·have i1: ¬((i:Int)<n):=by omega
   have hz:R=false:=by
    rw [←HI.out.1,List.drop_eq_nil_of_le (by have:=HX.out.2.2.1;omega)]
    rfl
   have HZ:=Lib.hid hz
   clear hz hin
   go_wp2
   go_returns
   exact ⟨by rw [HRR.out,HZ.out];rfl,HH.out.2.1.trans (HX.out.2.2.2.2.2.2.trans HI.out.2 fun _ _ f=>f) fun _ _ f=>f⟩
end Go.Proofs.YtfccjaboicpohaaGreatDoor
namespace Go.Proofs.YtfccjaboicpohaaGreatDoor
open Go.RowKit
open Ux (Row Ent sv ev)
theorem infoEE:(Tryz.prog.info? 56).map (fun i=>(i.zero,i.size,i.bytes))=some (some (.int .u32 0),1,4):=by kernel_rfl
theorem growE_ (n:Nat) (w:World) (hn:n≤1000000):Calls Tryz.prog 156 #[.slice none 0 0,.int .i64 (n:Int)] w fun e w'=> ∃v,e= .returned v∧Row w' w.heap.size 56 v []∧Ux.Touch (fun _=>False) w w':=by
 by_cases h0:n=0
 ·subst h0
  go_enter Tryz.func156,Tryz.ntmps156
  go_wp2
  go_returns
  exact ⟨_,rfl,Row.nil _ _ _,Ux.Touch.refl _ _⟩
 ·obtain ⟨i0,hi0,hz0⟩:=Option.map_eq_some_iff.1 infoEE
  simp only [Prod.mk.injEq] at hz0
  obtain ⟨hz0,hz1,hz2⟩:=hz0
  have run:=fun ty=>Go.Lib.run_append_nil_zeros (P:=Tryz.prog) w 49 3 ty 56 i0 (.int .u32 0) .i64 .i64 Tryz.underlying49 Tryz.underlying3 hi0 hz0 n (by omega) (by omega) (by omega) (by rw [hz2];omega)
  obtain ⟨W,hW⟩: ∃W,(w.drew.alloc (.cells (Builtin.zeroCells (Value.int .u32 0).cells n++Builtin.zeroCells (Value.int .u32 0).cells (grownCap w n 0 56-n)) 56))=W:=⟨_,rfl⟩
  rw [hW] at run
  have hge:=grownCap_ge w n 0 56
  have hR:Row W w.heap.size 56 (.slice (some ⟨w.heap.size,0,none⟩) 0 (grownCap w n 0 56)) []:=by
   refine .inr ⟨w.heap.size,_,_,rfl,Nat.le_refl _,by rw [←hW];exact heap_alloc_new w.drew _,Nat.zero_le _,?_,rfl⟩
   rw [Array.size_append,size_zeroCells,size_zeroCells]
   simp [Value.cells]
   omega
  have hT:Ux.Touch (fun _=>False) w W:=by rw [←hW];exact (Ux.Touch.refl _ w).drew.alloc _
  obtain ⟨K,hK⟩: ∃K,grownCap w n 0 56=K:=⟨_,rfl⟩
  rw [hK] at run hR
  have R:=Lib.hid run
  have H:=Lib.hid (And.intro hR hT)
  have n1:(0:Int)<n:=by omega
  have n2:0<n:=by omega
  clear run hR hT hge hK hW hz0 hz1 hz2 hi0 h0
  go_enter Tryz.func156,Tryz.ntmps156
  go_wp2_with (at_builtin;refine Ux.wpList_app (v1:= .slice none 0 0) (x1:= .int .i64 (n:Int)) rfl _ _ _ _ rfl rfl rfl (R.out _) ?_)
  go_returns
  exact ⟨_,rfl,H.out.1,H.out.2⟩
set_option maxHeartbeats 4000000 in
set_option maxRecDepth 100000 in
theorem concat_ (g:Nat) (va vb:Value) (x y:List Nat) (w:World) (h0:w.cell? ⟨g,0,none⟩=some va) (h1:w.cell? ⟨g,1,none⟩=some vb) (hx:Row w 0 56 va (ev x)) (hy:Row w 0 56 vb (ev y)) (lx:x.length≤1000) (ly:y.length≤1000):
 Calls Tryz.prog 103 #[.slice (some ⟨g,0,none⟩) 2 2] w fun e w'=> ∃v,e= .returned v∧Row w' w.heap.size 56 v (ev (x++y))∧Ux.Touch (fun _=>False) w w':=by
 obtain ⟨a1,c1,rfl,_⟩:=hx.is
 obtain ⟨a2,c2,rfl,_⟩:=hy.is
 rw [Ux.ev_length] at hx hy h0 h1
 obtain ⟨n1,hn1⟩: ∃n,x.length=n:=⟨_,rfl⟩
 obtain ⟨n2,hn2⟩: ∃n,y.length=n:=⟨_,rfl⟩
 rw [hn1] at hx h0 lx
 rw [hn2] at hy h1 ly
 have HX:=Lib.hid (And.intro hx (And.intro hy (And.intro hn1 (And.intro hn2 (And.intro h0 h1)))))
 have HG:=Lib.hid (growE_ (n1+n2) w (by omega))
 have k1:(n1:Int)≤1000:=by omega
 have k2:(n2:Int)≤1000:=by omega
 have k3:(0:Int)≤n1:=by omega
 have k4:(0:Int)≤n2:=by omega
 have k5: ¬((n1:Int)<0):=by omega
 have k6: ¬((n1:Int)+n2<0):=by omega
 rw [Int.natCast_add] at HG
 clear hx hy hn1 hn2 lx ly
 go_enter Tryz.func103,Tryz.ntmps103
 go_wp2
 refine wp_loop_rounds 3 ?_
 rw [rounds_succ]
 go_wp2
 rw [rounds_succ]
 go_wp2
 rw [rounds_succ]
 go_wp2_with (go_at_call 156;fail)
 refine HG.out.mono ?_
 rintro e w3 ⟨v0,rfl,hr0,T3⟩
 obtain ⟨a0,c0,hv0,_⟩:=hr0.is
 have hv0:v0= .slice a0 0 c0:=hv0
 subst hv0
 obtain ⟨hx,hy,hn1,hn2,d0,d1⟩:=HX.out
 have d0:=T3.cell d0 (fun f=>f)
 have d1:=T3.cell d1 (fun f=>f)
 have hx3:=hx.touch0 T3
 have hy3:=hy.touch0 T3
 have hs1:Src Tryz.prog 1 49 (.slice a1 n1 c1) n1 (ev x) w3:=by have h:=hx3.src (P:=Tryz.prog) Tryz.underlying49 (ev_one x);rwa [Ux.ev_length,hn1] at h
 obtain ⟨r4,w4,run4,hr4,T4⟩:=hr0.app (P:=Tryz.prog) 49 4 _ Tryz.underlying49 infoEE rfl _ _ _ hs1 (by rw [Ux.ev_length,hn1]) T3.size (by simp [maxLen];omega) (by simp;omega)
 have hlt: ∀b,b<w.heap.size→¬(w.heap.size≤b∧(Value.slice a0 0 c0).ownBlock=some b):=fun b hb hh=>by have:=hh.1;omega
 have hgl:g<w.heap.size:=block_lt_of_cell HX.out.2.2.2.2.1
 have f0:=T4.cell d0 (hlt g hgl)
 have f1:=T4.cell d1 (hlt g hgl)
 have hy4:=hy3.touch T4 fun b _ hb=>by
  obtain ⟨cs,hk⟩:=hy.kind hb
  exact hlt b (Ux.lt_of_heap hk)
 have hs2:Src Tryz.prog 1 49 (.slice a2 n2 c2) n2 (ev y) w4:=by have h:=hy4.src (P:=Tryz.prog) Tryz.underlying49 (ev_one y);rwa [Ux.ev_length,hn2] at h
 obtain ⟨a4,c4,rfl,_⟩:=hr4.is
 rw [show ([]++ev x:List Value)=ev x from rfl,Ux.ev_length,hn1] at hr4 run4
 obtain ⟨r5,w5,run5,hr5,T5⟩:=hr4.app (P:=Tryz.prog) 49 4 _ Tryz.underlying49 infoEE rfl _ _ _ hs2 (by rw [Ux.ev_length,hn2]) (Nat.le_trans T3.size T4.size) (by rw [Ux.ev_length,hn1];simp [maxLen];omega) (by rw [Ux.ev_length,hn1];omega)
 have e5:ev x++ev y=ev (x++y):=by unfold ev;rw [List.map_append]
 rw [e5] at hr5
 have TT:Ux.Touch (fun _=>False) w w5:=(T3.trans T4 fun b hb h=>hlt b hb h).trans T5 fun b hb h=>by have:=h.1;omega
 have H5:=Lib.hid (And.intro hr5 TT)
 have R4:=Lib.hid run4
 have R5:=Lib.hid run5
 clear hx hy hn1 hn2 hx3 hy3 hs1 hr0 hr4 T4 hlt hgl hy4 hs2 hr5 T5 e5 TT run4 run5 T3 h0 h1
 go_wp2
 refine wp_loop_rounds 3 ?_
 rw [rounds_succ]
 go_wp2_with (at_builtin;refine Ux.wpList_app (v1:= .slice a0 0 c0) (x1:= .slice a1 n1 c1) rfl _ _ _ _ rfl rfl rfl (R4.out _) ?_)
 rw [rounds_succ]
 go_wp2_with (at_builtin;refine Ux.wpList_app (v1:= .slice a4 n1 c4) (x1:= .slice a2 n2 c2) rfl _ _ _ _ rfl rfl rfl (R5.out _) ?_)
 rw [rounds_succ]
 go_wp2
 go_returns
 exact ⟨_,rfl,H5.out.1,H5.out.2⟩
end Go.Proofs.YtfccjaboicpohaaGreatDoor
