/- A part of the proof that the statement holds for every input that it names. No other condition. -/
import Derived.Test.YtmnkinaaoifpeaaGreatDoorUxPlanAllZ
import Derived.Test.YtmnkinaaoifpeaaGreatDoorUxMemAZ
import Derived.WalkSpells
import Derived.WalkLawsBesides
import Derived.BigQuiet
set_option linter.unusedVariables false
set_option linter.unusedSimpArgs false
namespace Go.Ux
open Go
theorem tq {R:Nat→Prop} {w w':World} (h:Touch R w w':=by repeat (first|exact Go.Ux.Touch.refl _ _|refine Go.Ux.Touch.drew ?_|refine Go.Ux.Touch.alloc ?_ _)):Touch R w w':=h
section
variable {P:Program} {ops:Array Oper} {Q:Exit→Act→World→Prop}
theorem wpr {id:Nat} {a:Act} {w:World} (S:Bool→World→Prop) (p:Plan) {X:Prop} (h:X)
 (hm:P.follows .mixedOrders=true:=by kernel_rfl) (hok:planOK ops p=true:=by kernel_rfl)
 (hQ: ∀c a d v w,Q (.panic c) (a.put d v) w→Q (.panic c) a w:=by (intro _ _ d _ _ h;cases d<;>exact h))
 (hS: ∀c,S c w.drew:=by (intro c;cases c<;>(simp only [Go.World.cell?_drew];first|exact True.intro|(refine ⟨?_,?_⟩<;>assumption)|assumption|(repeat (first|assumption|(refine And.intro ?_ ?_))))))
 (e:wpPlan P ops S Q p a w.drew=X:=by (simp only [Go.Ux.wpPlan,Go.Ux.pickOps,Go.Ux.keeps,List.getElem?_toArray,List.getElem?_cons_succ,List.getElem?_cons_zero];exact rfl)):
 (Code.region id ops true).wp P Q a w:=wp_region_plan S p hm hok hQ hS (e▸h)
theorem quiet_to {C:World→Prop} {K:Act→Prop} {a':Act} (k:K a'): ∀(l:List Oper) (a:Act),wpQuiet P ops C (fun x=>x=a') l a→wpQuiet P ops C K l a
 | [],a,h=>by
   have h:a=a':=h
   subst h;exact k
 |o::l,a,h=>by
  unfold wpQuiet at h⊢
  split at h
  ·rename_i hw
   rw [if_pos hw]
   obtain ⟨v,h,hk⟩:=h
   exact ⟨v,h,quiet_to k l _ hk⟩
  ·rename_i hw
   rw [if_neg hw]
   exact quiet_to k l _ h
structure Qw (P:Program) (ops:Array Oper) (C:World→Prop) (K:Act→Prop) (l:List Oper) (a:Act):Prop where
 mk'::(out:wpQuiet P ops C K l a)
theorem qg {C:World→Prop} {K:Act→Prop} {l:List Oper} {a:Act} (h:Qw P ops C K l a):wpQuiet P ops C K l a:=h.out
theorem qu {C:World→Prop} {K:Act→Prop} {l:List Oper} {a a':Act} (k:K a')
 (h:wpQuiet P ops C (fun x=>x=a') l a:=by
   (repeat (first|go_big_quiet_step (fail)|(with_reducible refine wpQuiet_nil ?_)|(refine Go.Ux.quiet_held rfl ?_;apply Exists.intro;refine ⟨fun w' hS=> ?_,?_⟩;(focus ((try dsimp only at hS);go_simp;first|done|with_reducible rfl));simp only [Act.put,List.setIfInBounds_toArray,List.set_cons_zero,List.set_cons_succ])));
   exact rfl):Qw P ops C K l a:=⟨quiet_to k l a h⟩
end
end Go.Ux
