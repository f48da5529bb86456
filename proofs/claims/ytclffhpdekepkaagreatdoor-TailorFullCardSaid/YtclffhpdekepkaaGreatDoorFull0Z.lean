/- A part of the proof that the statement holds for every input that it names. No other condition. -/
import Derived.Test.YtclffhpdekepkaaGreatDoorTsAZ
set_option linter.unusedVariables false
set_option linter.unusedSimpArgs false
namespace Go.Proofs.YtclffhpdekepkaaGreatDoor
open Go.RowKit
open Ux (Ent sv findE putE elemsE rootT eLetter eMk raise mapE newK eT wt8 okT)
open Ux.Rules (Rul okRuls)
def upT (i x:Nat):Nat:=if 2<eT x then x/256*256+(eT x+i) % 128*2+x % 2 else x
def fullTT (i:Nat):List Ent:=if i=0 then rootT 132 else putE (mapE (upT i) (rootT 132)) [49] [newK 3 (eLetter 0 2)]
def fullR:List Rul:= [⟨1,[97],[]⟩,⟨4,[49],[]⟩]
set_option maxRecDepth 100000 in
theorem full_step: ∀i,i<117→applyT (fullTT i) [] fullR=(0,fullTT (i+1)):=by decide+kernel
set_option maxRecDepth 100000 in
theorem full_end:(applyT (fullTT 117) [] fullR).1=60:=by decide+kernel
def mxL (m:Nat) (l:List Nat):Nat:=l.foldl (fun m x=>max m (wt8 3 x)) m
def mxT (m:Nat) (T:List Ent):Nat:=T.foldl (fun m e=>mxL m e.2) m
set_option maxRecDepth 100000 in
theorem full_mx: ∀i,i<118→(decide (mxT 0 (fullTT i)=127)=decide (i=117)∧(fullTT i).length≤200):=by decide+kernel
theorem mxL_ge (l:List Nat): ∀m,m≤mxL m l∧∀x∈l,wt8 3 x≤mxL m l:=by
 induction l with
 |nil=>exact fun m=>⟨Nat.le_refl _,fun x hx=>by cases hx⟩
 |cons y l ih=>
  intro m
  have h:=ih (max m (wt8 3 y))
  refine ⟨Nat.le_trans (Nat.le_max_left _ _) h.1,fun x hx=> ?_⟩
  rcases List.mem_cons.1 hx with rfl|hx
  ·exact Nat.le_trans (Nat.le_max_right _ _) h.1
  ·exact h.2 x hx
theorem mxL_le (l:List Nat): ∀m B,m≤B→(∀x∈l,wt8 3 x≤B)→mxL m l≤B:=by
 induction l with
 |nil=>exact fun m B h _=>h
 |cons y l ih=>exact fun m B h hx=>ih _ B (Nat.max_le.2 ⟨h,hx y (by simp)⟩) fun x h=>hx x (by simp [h])
theorem mxT_ge (T:List Ent): ∀m,m≤mxT m T∧∀e∈T,∀x∈e.2,wt8 3 x≤mxT m T:=by
 induction T with
 |nil=>exact fun m=>⟨Nat.le_refl _,fun x hx=>by cases hx⟩
 |cons y l ih=>
  intro m
  have h:=ih (mxL m y.2)
  refine ⟨Nat.le_trans (mxL_ge y.2 m).1 h.1,fun e he x hx=> ?_⟩
  rcases List.mem_cons.1 he with rfl|he
  ·exact Nat.le_trans ((mxL_ge _ m).2 x hx) h.1
  ·exact h.2 e he x hx
theorem mxT_le (T:List Ent): ∀m B,m≤B→(∀e∈T,∀x∈e.2,wt8 3 x≤B)→mxT m T≤B:=by
 induction T with
 |nil=>exact fun m B h _=>h
 |cons y l ih=>exact fun m B h hx=>ih _ B (mxL_le _ _ _ h (hx y (by simp))) fun e he=>hx e (by simp [he])
theorem mxT_mem {T T':List Ent} (h: ∀e,e∈T↔e∈T') (m:Nat):mxT m T=mxT m T':=
 Nat.le_antisymm (mxT_le _ _ _ (mxT_ge T' m).1 fun e he x hx=>(mxT_ge T' m).2 e ((h e).1 he) x hx) (mxT_le _ _ _ (mxT_ge T m).1 fun e he x hx=>(mxT_ge T m).2 e ((h e).2 he) x hx)
theorem mxT_take (T:List Ent) (m k:Nat) (e:Ent) (h:T[k]? =some e):mxT m (T.take (k+1))=mxL (mxT m (T.take k)) e.2:=by
 unfold mxT
 rw [List.take_add_one,h,List.foldl_append]
 rfl
theorem mxL_take (l:List Nat) (m k x:Nat) (h:l[k]? =some x):mxL m (l.take (k+1))=max (mxL m (l.take k)) (wt8 3 x):=by
 unfold mxL
 rw [List.take_add_one,h,List.foldl_append]
 rfl
end Go.Proofs.YtclffhpdekepkaaGreatDoor
