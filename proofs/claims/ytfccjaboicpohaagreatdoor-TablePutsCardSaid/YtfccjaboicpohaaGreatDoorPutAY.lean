/- A part of the proof that the statement holds for every input that it names. No other condition. -/
import Derived.Test.YtfccjaboicpohaaGreatDoorMapsAY
import Derived.Test.YtfccjaboicpohaaGreatDoorUxEndsY
import Derived.Test.YtfccjaboicpohaaGreatDoorRefBY
set_option linter.unusedVariables false
set_option linter.unusedSimpArgs false
namespace Go.Proofs.YtfccjaboicpohaaGreatDoor
open Go.RowKit
open Ux (Row sv iv ev KGrow NView eP eS eT eV)
theorem rv_snoc (l:List Nat) (x:Nat):rv (l++ [x])=rv l++ [Value.int .i64 (eP x:Nat),.int .i64 (eS x:Nat),.int .i64 (eT x:Nat),.bool (eV x)]:=by
 unfold rv
 rw [List.flatMap_append]
 rfl
end Go.Proofs.YtfccjaboicpohaaGreatDoor
namespace Go.Proofs.YtfccjaboicpohaaGreatDoor
open Go.RowKit
open Ux (Row Ent rootE rootT sv iv ev elemsE atE okT SameE OpsView NView KGrow)
open Ux.Sign (cp raw signs)
def Two (w:World) (q B mb:Nat) (E T:List Ent) (v:Value):Prop:=
 TableAt w B mb E∧RRows w (fun b=>b≠q) v T∧SameE E T∧(∀e∈E,∀c∈e.1,cp c∨raw c)∧E.length≤500∧w.heap[q]? =some (.cells #[v] 36 (0,0))
theorem Two.touch {w w':World} {q B mb:Nat} {E T:List Ent} {v:Value} (h:Two w q B mb E T v) (ht:Ux.Touch (fun _=>False) w w'):Two w' q B mb E T v:=
 ⟨h.1.touch0 ht,h.2.1.touch0 ht,h.2.2.1,h.2.2.2.1,h.2.2.2.2.1,ht.heap h.2.2.2.2.2 (fun f=>f)⟩
end Go.Proofs.YtfccjaboicpohaaGreatDoor
namespace Go.Ux
open Go Go.Maps Go.RowKit
variable {P:Program} {k t:TypeId} {w w':World} {b:Nat} {E:List Ent} {A:Nat→Prop}
theorem TabA.touch0 (h:TabA P k t w b E A) (ht:Touch (fun _=>False) w w'):TabA P k t w' b E A:=h.touch ht (fun f=>f) fun _ _ f=>f
theorem TabA.set {f:Lit→Option Value} {v:Value} {s l:List Nat} (h0:okT E) (h1:MapIs P k w b E.length f) (h2:Tells t w f E) (h3: ∀kl v g,f kl=some v→v.ownBlock=some g→A g) (hs:okE (s,l)) (hv:Row w 0 t v (ev l))
 (hvA: ∀g,v.ownBlock=some g→A g) (hm:MapIs P k w' b (E.length+1) (upd f (kl3 s) v)) (ht:Touch (fun i=>i=b) w w') (K:Keyed P k):TabA P k t w' b (setE E s l) A:=by
 have hR:=h1.notCells (t:=t)
 have hok:=setE_ok h0 hs
 have h2':=h2.touch ht hR
 have hv':Row w' 0 t v (ev l):=hv.imp id fun ⟨g,c,cur,e,hg,hh,r⟩=>⟨g,c,cur,e,hg,ht.heap hh (hR g _ hh),r⟩
 have hT:Tells t w' (upd f (kl3 s) v) (setE E s l):=by
  refine ⟨fun e he=> ?_,fun kl u hu=> ?_⟩
  ·rcases (setE_mem e).1 he with rfl|⟨he,hne⟩
   ·exact ⟨v,by unfold upd;rw [if_pos (kl3_self s)],hv'⟩
   ·obtain ⟨u,hu,hr⟩:=h2'.1 e he
    refine ⟨u,?_,hr⟩
    unfold upd
    rw [if_neg]
    ·exact hu
    ·intro hk
     exact hne (kl3_inj (h0.2 e he).1 hs.1 (WideAt.sameKey_eq hk))
  ·unfold upd at hu
   split at hu
   ·rename_i hk
    exact ⟨(s,l),(setE_mem _).2 (.inl rfl),WideAt.sameKey_eq hk⟩
   ·rename_i hk
    obtain ⟨e,he,rfl⟩:=h2.2 kl u hu
    refine ⟨e,(setE_mem e).2 (.inr ⟨he,fun hes=>hk ?_⟩),rfl⟩
    rw [hes]
    exact kl3_self s
 have:=(hm.exact K (keysE_nodup hok) hT.keys).1
 rw [List.length_map] at this
 refine ⟨hok,_,this,hT,fun kl u g hu hg=> ?_⟩
 unfold upd at hu
 split at hu
 ·cases hu
  exact hvA g hg
 ·exact h3 kl u g hu hg
end Go.Ux
