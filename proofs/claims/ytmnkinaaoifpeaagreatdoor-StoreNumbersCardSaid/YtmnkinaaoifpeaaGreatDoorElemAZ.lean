/- A part of the proof that the statement holds for every input that it names. No other condition. -/
import Derived.Test.YtmnkinaaoifpeaaGreatDoorUxMemAZ
import Derived.Test.YtmnkinaaoifpeaaGreatDoorUxNumAZ
import Derived.Test.YtmnkinaaoifpeaaGreatDoorRows
import Derived.Handy
import Derived.Laws.EntriesVeiled
import Derived.WalkSpells
import Derived.WalkLawsBesides
import Derived.BigQuiet
import Derived.Deep.Cut
import Derived.Deep.DeepCutAuto
import Derived.Lib.Overlaps
import Derived.Lib.Hide
import Derived.Test.YtmnkinaaoifpeaaGreatDoorUxCollAZ
set_option linter.unusedVariables false
set_option linter.unusedSimpArgs false
namespace Go.Proofs.YtmnkinaaoifpeaaGreatDoor
open Go.RowKit
open Ux (eP eS eT eV eMk setF fld)
theorem mask_a (w:World):Calls Tryz.prog 254 #[.int .i64 16,.int .i64 16] w fun e w'=>e= .returned (.int .u64 4294901760)∧w'=w:=by
 go_enter Tryz.func254,Tryz.ntmps254
 go_wp2
 go_ret
 exact ⟨rfl,rfl⟩
theorem mask_b (w:World):Calls Tryz.prog 254 #[.int .i64 8,.int .i64 8] w fun e w'=>e= .returned (.int .u64 65280)∧w'=w:=by
 go_enter Tryz.func254,Tryz.ntmps254
 go_wp2
 go_ret
 exact ⟨rfl,rfl⟩
theorem mask_c (w:World):Calls Tryz.prog 254 #[.int .i64 1,.int .i64 7] w fun e w'=>e= .returned (.int .u64 254)∧w'=w:=by
 go_enter Tryz.func254,Tryz.ntmps254
 go_wp2
 go_ret
 exact ⟨rfl,rfl⟩
theorem field_1 (w:World):Calls Tryz.prog 206 #[.int .i64 1] w fun e w'=>e= .returned (.tuple #[.int .i64 16,.int .i64 16])∧w'=w:=by
 go_enter Tryz.func206,Tryz.ntmps206
 go_wp2
 go_returns
 exact ⟨rfl,rfl⟩
theorem field_2 (w:World):Calls Tryz.prog 206 #[.int .i64 2] w fun e w'=>e= .returned (.tuple #[.int .i64 8,.int .i64 8])∧w'=w:=by
 go_enter Tryz.func206,Tryz.ntmps206
 go_wp2
 go_returns
 exact ⟨rfl,rfl⟩
theorem field_3 (w:World):Calls Tryz.prog 206 #[.int .i64 3] w fun e w'=>e= .returned (.tuple #[.int .i64 1,.int .i64 7])∧w'=w:=by
 go_enter Tryz.func206,Tryz.ntmps206
 go_wp2
 go_returns
 exact ⟨rfl,rfl⟩
theorem get_a (x:Nat) (hx:x<4294967296) (w:World):Calls Tryz.prog 235 #[.int .u64 x,.int .i64 16,.int .i64 16] w fun e w'=>e= .returned (.int .u64 (eP x:Nat))∧w'=w:=by
 have M:=Lib.hid mask_a
 have e:bits .and .u64 (x:Int) 4294901760/65536=(eP x:Nat):=by
  have:=Ux.get_field 16 16 x (by omega) (by omega)
  rw [Ux.fld_p x hx] at this
  exact this
 have HE:=Lib.hid e
 have h1:(x:Int)<4294967296:=by omega
 clear e
 go_enter Tryz.func235,Tryz.ntmps235
 go_wp2_with (go_at_call 254;refine (M.out _).mono ?_;rintro e w' ⟨rfl,rfl⟩)
 go_ret
 refine ⟨?_,rfl⟩
 rw [←HE.out]
 rfl
theorem set_a (x v:Nat) (hx:x<4294967296) (hv:v<1099511627776) (w:World):Calls Tryz.prog 239 #[.int .u64 x,.int .i64 16,.int .i64 16,.int .u64 v] w fun e w'=>e= .returned (.int .u64 (setF 16 16 x v:Nat))∧w'=w:=by
 have M:=Lib.hid mask_a
 have e:bits .or .u64 (bits .andNot .u64 (x:Int) 4294901760) (bits .and .u64 ((v:Int)*65536) 4294901760)=(setF 16 16 x v:Nat):=by
  have:=Ux.set_field 16 16 x v (by omega) (by omega)
  rw [Nat.mod_eq_of_lt (show v*2^16<18446744073709551616 by omega),Int.natCast_mul] at this
  exact this
 have HE:=Lib.hid e
 have h1:(x:Int)<4294967296:=by omega
 have h2:(v:Int)<1099511627776:=by omega
 clear e
 go_enter Tryz.func239,Tryz.ntmps239
 go_wp2_with (go_at_call 254;refine (M.out _).mono ?_;rintro e w' ⟨rfl,rfl⟩)
 go_ret
 refine ⟨?_,rfl⟩
 rw [←HE.out]
 rfl
theorem get_b (x:Nat) (hx:x<4294967296) (w:World):Calls Tryz.prog 235 #[.int .u64 x,.int .i64 8,.int .i64 8] w fun e w'=>e= .returned (.int .u64 (eS x:Nat))∧w'=w:=by
 have M:=Lib.hid mask_b
 have e:bits .and .u64 (x:Int) 65280/256=(eS x:Nat):=by
  have:=Ux.get_field 8 8 x (by omega) (by omega)
  rw [Ux.fld_s] at this
  exact this
 have HE:=Lib.hid e
 have h1:(x:Int)<4294967296:=by omega
 clear e
 go_enter Tryz.func235,Tryz.ntmps235
 go_wp2_with (go_at_call 254;refine (M.out _).mono ?_;rintro e w' ⟨rfl,rfl⟩)
 go_ret
 refine ⟨?_,rfl⟩
 rw [←HE.out]
 rfl
theorem set_b (x v:Nat) (hx:x<4294967296) (hv:v<1099511627776) (w:World):Calls Tryz.prog 239 #[.int .u64 x,.int .i64 8,.int .i64 8,.int .u64 v] w fun e w'=>e= .returned (.int .u64 (setF 8 8 x v:Nat))∧w'=w:=by
 have M:=Lib.hid mask_b
 have e:bits .or .u64 (bits .andNot .u64 (x:Int) 65280) (bits .and .u64 ((v:Int)*256) 65280)=(setF 8 8 x v:Nat):=by
  have:=Ux.set_field 8 8 x v (by omega) (by omega)
  rw [Nat.mod_eq_of_lt (show v*2^8<18446744073709551616 by omega),Int.natCast_mul] at this
  exact this
 have HE:=Lib.hid e
 have h1:(x:Int)<4294967296:=by omega
 have h2:(v:Int)<1099511627776:=by omega
 clear e
 go_enter Tryz.func239,Tryz.ntmps239
 go_wp2_with (go_at_call 254;refine (M.out _).mono ?_;rintro e w' ⟨rfl,rfl⟩)
 go_ret
 refine ⟨?_,rfl⟩
 rw [←HE.out]
 rfl
theorem get_c (x:Nat) (hx:x<4294967296) (w:World):Calls Tryz.prog 235 #[.int .u64 x,.int .i64 1,.int .i64 7] w fun e w'=>e= .returned (.int .u64 (eT x:Nat))∧w'=w:=by
 have M:=Lib.hid mask_c
 have e:bits .and .u64 (x:Int) 254/2=(eT x:Nat):=by
  have:=Ux.get_field 1 7 x (by omega) (by omega)
  rw [Ux.fld_t] at this
  exact this
 have HE:=Lib.hid e
 have h1:(x:Int)<4294967296:=by omega
 clear e
 go_enter Tryz.func235,Tryz.ntmps235
 go_wp2_with (go_at_call 254;refine (M.out _).mono ?_;rintro e w' ⟨rfl,rfl⟩)
 go_ret
 refine ⟨?_,rfl⟩
 rw [←HE.out]
 rfl
theorem set_c (x v:Nat) (hx:x<4294967296) (hv:v<1099511627776) (w:World):Calls Tryz.prog 239 #[.int .u64 x,.int .i64 1,.int .i64 7,.int .u64 v] w fun e w'=>e= .returned (.int .u64 (setF 1 7 x v:Nat))∧w'=w:=by
 have M:=Lib.hid mask_c
 have e:bits .or .u64 (bits .andNot .u64 (x:Int) 254) (bits .and .u64 ((v:Int)*2) 254)=(setF 1 7 x v:Nat):=by
  have:=Ux.set_field 1 7 x v (by omega) (by omega)
  rw [Nat.mod_eq_of_lt (show v*2^1<18446744073709551616 by omega),Int.natCast_mul] at this
  exact this
 have HE:=Lib.hid e
 have h1:(x:Int)<4294967296:=by omega
 have h2:(v:Int)<1099511627776:=by omega
 clear e
 go_enter Tryz.func239,Tryz.ntmps239
 go_wp2_with (go_at_call 254;refine (M.out _).mono ?_;rintro e w' ⟨rfl,rfl⟩)
 go_ret
 refine ⟨?_,rfl⟩
 rw [←HE.out]
 rfl
def wt (lv x:Nat):Nat:=if lv=1 then eP x else if lv=2 then eS x else eT x
def withF (lv x v:Nat):Nat:=if lv=1 then v % 65536*65536+x % 65536 else if lv=2 then x/65536*65536+v % 256*256+x % 256 else x/256*256+v % 128*2+x % 2
theorem withF_lt (lv x v:Nat) (hx:x<4294967296):withF lv x v<4294967296:=by
 unfold withF
 split
 ·omega
 ·split<;>omega
theorem setF_1 (x v:Nat) (hx:x<4294967296):setF 16 16 x v=withF 1 x v:=by unfold setF withF;simp;omega
theorem setF_2 (x v:Nat):setF 8 8 x v=withF 2 x v:=by unfold setF withF;simp;omega
theorem setF_3 (x v:Nat):setF 1 7 x v=withF 3 x v:=by unfold setF withF;simp;omega
set_option maxHeartbeats 2000000 in
set_option maxRecDepth 100000 in
theorem weightN (lv x:Nat) (hl:lv=1∨lv=2∨lv=3) (hx:x<4294967296) (w:World):Calls Tryz.prog 196 #[.int .u32 x,.int .i64 lv] w fun e w'=>e= .returned (.int .i64 (wt lv x:Nat))∧w'=w:=by
 have h1:(x:Int)<4294967296:=by omega
 have h0:(0:Int)≤x:=by omega
 have b1:eP x<4294967296:=by unfold eP;omega
 have b2:eS x<4294967296:=by unfold eS;omega
 have b3:eT x<4294967296:=by unfold eT;omega
 rcases hl with rfl|rfl|rfl
 ·have G:=Lib.hid (get_a x hx)
  have F:=Lib.hid field_1
  obtain ⟨y,hy⟩: ∃y,eP x=y:=⟨_,rfl⟩
  have e:wt 1 x=y:=hy
  rw [hy] at G b1
  rw [e]
  have b1':(y:Int)<4294967296:=by omega
  clear e hy hx b2 b3
  go_enter Tryz.func196,Tryz.ntmps196
  go_wp2_with (first|(go_at_call 206;refine (F.out _).mono ?_;rintro e w' ⟨rfl,rfl⟩)|(go_at_call 235;refine (G.out _).mono ?_;rintro e w' ⟨rfl,rfl⟩))
  go_ret
  exact ⟨rfl,rfl⟩
 ·have G:=Lib.hid (get_b x hx)
  have F:=Lib.hid field_2
  obtain ⟨y,hy⟩: ∃y,eS x=y:=⟨_,rfl⟩
  have e:wt 2 x=y:=hy
  rw [hy] at G b2
  rw [e]
  have b1':(y:Int)<4294967296:=by omega
  clear e hy hx b1 b3
  go_enter Tryz.func196,Tryz.ntmps196
  go_wp2_with (first|(go_at_call 206;refine (F.out _).mono ?_;rintro e w' ⟨rfl,rfl⟩)|(go_at_call 235;refine (G.out _).mono ?_;rintro e w' ⟨rfl,rfl⟩))
  go_ret
  exact ⟨rfl,rfl⟩
 ·have G:=Lib.hid (get_c x hx)
  have F:=Lib.hid field_3
  obtain ⟨y,hy⟩: ∃y,eT x=y:=⟨_,rfl⟩
  have e:wt 3 x=y:=hy
  rw [hy] at G b3
  rw [e]
  have b1':(y:Int)<4294967296:=by omega
  clear e hy hx b1 b2
  go_enter Tryz.func196,Tryz.ntmps196
  go_wp2_with (first|(go_at_call 206;refine (F.out _).mono ?_;rintro e w' ⟨rfl,rfl⟩)|(go_at_call 235;refine (G.out _).mono ?_;rintro e w' ⟨rfl,rfl⟩))
  go_ret
  exact ⟨rfl,rfl⟩
set_option maxHeartbeats 2000000 in
set_option maxRecDepth 100000 in
theorem ewithN (lv x v:Nat) (hl:lv=1∨lv=2∨lv=3) (hx:x<4294967296) (hv:v<1099511627776) (w:World):Calls Tryz.prog 207 #[.int .u32 x,.int .i64 lv,.int .i64 v] w fun e w'=>e= .returned (.int .u32 (withF lv x v:Nat))∧w'=w:=by
 have h1:(x:Int)<4294967296:=by omega
 have h0:(0:Int)≤x:=by omega
 have g1:(v:Int)<1099511627776:=by omega
 have g0:(0:Int)≤v:=by omega
 have hb:=withF_lt lv x v hx
 rcases hl with rfl|rfl|rfl
 ·have G:=Lib.hid (set_a x v hx hv)
  rw [setF_1 x v hx] at G
  have F:=Lib.hid field_1
  obtain ⟨y,hy⟩: ∃y,withF 1 x v=y:=⟨_,rfl⟩
  rw [hy] at G hb⊢
  have b1':(y:Int)<4294967296:=by omega
  clear hy hx hv
  go_enter Tryz.func207,Tryz.ntmps207
  go_wp2_with (first|(go_at_call 206;refine (F.out _).mono ?_;rintro e w' ⟨rfl,rfl⟩)|(go_at_call 239;refine (G.out _).mono ?_;rintro e w' ⟨rfl,rfl⟩))
  go_ret
  exact ⟨rfl,rfl⟩
 ·have G:=Lib.hid (set_b x v hx hv)
  rw [setF_2 x v] at G
  have F:=Lib.hid field_2
  obtain ⟨y,hy⟩: ∃y,withF 2 x v=y:=⟨_,rfl⟩
  rw [hy] at G hb⊢
  have b1':(y:Int)<4294967296:=by omega
  clear hy hx hv
  go_enter Tryz.func207,Tryz.ntmps207
  go_wp2_with (first|(go_at_call 206;refine (F.out _).mono ?_;rintro e w' ⟨rfl,rfl⟩)|(go_at_call 239;refine (G.out _).mono ?_;rintro e w' ⟨rfl,rfl⟩))
  go_ret
  exact ⟨rfl,rfl⟩
 ·have G:=Lib.hid (set_c x v hx hv)
  rw [setF_3 x v] at G
  have F:=Lib.hid field_3
  obtain ⟨y,hy⟩: ∃y,withF 3 x v=y:=⟨_,rfl⟩
  rw [hy] at G hb⊢
  have b1':(y:Int)<4294967296:=by omega
  clear hy hx hv
  go_enter Tryz.func207,Tryz.ntmps207
  go_wp2_with (first|(go_at_call 206;refine (F.out _).mono ?_;rintro e w' ⟨rfl,rfl⟩)|(go_at_call 239;refine (G.out _).mono ?_;rintro e w' ⟨rfl,rfl⟩))
  go_ret
  exact ⟨rfl,rfl⟩
theorem weight_ (lv x:Nat) (L:Int) (hL:L=lv) (hl:lv=1∨lv=2∨lv=3) (hx:x<4294967296) (w:World):Calls Tryz.prog 196 #[.int .u32 x,.int .i64 L] w fun e w'=>e= .returned (.int .i64 (wt lv x:Nat))∧w'=w:=by
 subst hL
 exact weightN lv x hl hx w
theorem ewith_ (lv x v:Nat) (L X V:Int) (hL:L=lv) (hX:X=x) (hV:V=v) (hl:lv=1∨lv=2∨lv=3) (hx:x<4294967296) (hv:v<1099511627776) (w:World):Calls Tryz.prog 207 #[.int .u32 X,.int .i64 L,.int .i64 V] w fun e w'=>e= .returned (.int .u32 (withF lv x v:Nat))∧w'=w:=by
 subst hL
 subst hX
 subst hV
 exact ewithN lv x v hl hx hv w
theorem u32_and1 (x:Nat) (hx:x<4294967296):bits .and .u32 (x:Int) 1=(x:Int) % 2:=by
 have:=bits_mask .u32 32 (by decide) (fun n h0 h1=>by rw [IntKind.wrap_u32];omega) 1 (by decide) (x:Int) (by omega) (by omega)
 exact this
theorem vari_ (x:Nat) (hx:x<4294967296) (w:World):Calls Tryz.prog 234 #[.int .u32 x] w fun e w'=>e= .returned (.bool (eV x))∧w'=w:=by
 have e:decide ((0:Int)<bits .and .u32 (x:Int) 1)=eV x:=by
  rw [u32_and1 x hx]
  unfold eV
  rw [decide_eq_decide]
  omega
 have HE:=Lib.hid e
 have h1:(x:Int)<4294967296:=by omega
 have h0:(0:Int)≤x:=by omega
 clear e
 go_enter Tryz.func234,Tryz.ntmps234
 go_wp2
 go_ret
 exact ⟨congrArg (fun b=>Ending.returned (.bool b)) HE.out,rfl⟩
theorem with_all (p s t:Nat) (hp:p<65536) (hs:s<256) (ht:t<128):withF 3 (withF 2 (withF 1 0 p) s) t=p*65536+s*256+t*2:=by
 unfold withF
 simp
 omega
theorem u32_or1 (x:Nat) (hx:x<4294967296) (h2:x % 2=0):bits .or .u32 (x:Int) 1=(x:Int)+1:=by
 have:=bits_join .u32 32 (by decide) (fun n h0 h1=>by rw [IntKind.wrap_u32];omega) 1 (x:Int) 1 (by omega) (by omega) (by omega) (by decide) (by decide) (by decide)
 exact this
set_option maxHeartbeats 4000000 in
set_option maxRecDepth 100000 in
theorem emake_ (p s t:Nat) (v:Bool) (hp:p<65536) (hs:s<256) (ht:t<128) (w:World):Calls Tryz.prog 157 #[.int .i64 p,.int .i64 s,.int .i64 t,.bool v] w fun e w'=>e= .returned (.tuple #[.int .u32 (eMk p s t v:Nat),.int .i64 0])∧w'=w:=by
 have F1:=Lib.hid field_1
 have F2:=Lib.hid field_2
 have F3:=Lib.hid field_3
 obtain ⟨y1,hy1⟩: ∃y,withF 1 0 p=y:=⟨_,rfl⟩
 obtain ⟨y2,hy2⟩: ∃y,withF 2 y1 s=y:=⟨_,rfl⟩
 obtain ⟨y3,hy3⟩: ∃y,withF 3 y2 t=y:=⟨_,rfl⟩
 have l1:y1<4294967296:=by rw [←hy1];exact withF_lt _ _ _ (by omega)
 have l2:y2<4294967296:=by rw [←hy2];exact withF_lt _ _ _ l1
 have l3:y3<4294967296:=by rw [←hy3];exact withF_lt _ _ _ l2
 have W1:=Lib.hid (ewith_ 1 0 p 1 0 p rfl rfl rfl (.inl rfl) (by omega) (by omega))
 have W2:=Lib.hid (ewith_ 2 y1 s 2 y1 s rfl rfl rfl (.inr (.inl rfl)) l1 (by omega))
 have W3:=Lib.hid (ewith_ 3 y2 t 3 y2 t rfl rfl rfl (.inr (.inr rfl)) l2 (by omega))
 rw [hy1] at W1
 rw [hy2] at W2
 rw [hy3] at W3
 have hall:=with_all p s t hp hs ht
 rw [hy1,hy2,hy3] at hall
 have hor:=u32_or1 y3 l3 (by omega)
 have HA:=Lib.hid (And.intro hall hor)
 have xp:decide ((p:Int)<0)=false:=decide_eq_false (by omega)
 have yp:decide ((p:Int)≥65536)=false:=decide_eq_false (by omega)
 have xs:decide ((s:Int)<0)=false:=decide_eq_false (by omega)
 have ys:decide ((s:Int)≥256)=false:=decide_eq_false (by omega)
 have xt:decide ((t:Int)<0)=false:=decide_eq_false (by omega)
 have yt:decide ((t:Int)≥128)=false:=decide_eq_false (by omega)
 have l3':(y3:Int)<4294967296:=by omega
 clear hy1 hy2 hy3 l1 l2 l3 hall hor hp hs ht
 go_enter Tryz.func157,Tryz.ntmps157
 go_wp2
 refine wp_loop_rounds 4 ?_
 rw [rounds_succ]
 go_wp2_with (first|(refine Ux.is_index 198 rfl ?_;refine Ux.wpList_index rfl 198 3 3 0 _ _ rfl #[.int .i64 p,.int .i64 s,.int .i64 t] (.int .i64 p) Tryz.underlying198 (Tryz.sizeOf3 _) (Tryz.isAgg3 _) rfl rfl (by omega) rfl ?_)|(go_at_call 206;refine (F1.out _).mono ?_;rintro e w' ⟨rfl,rfl⟩)|(go_at_call 207;refine (W1.out _).mono ?_;rintro e w' ⟨rfl,rfl⟩))
 rw [rounds_succ]
 go_wp2_with (first|(refine Ux.is_index 198 rfl ?_;refine Ux.wpList_index rfl 198 3 3 1 _ _ rfl #[.int .i64 p,.int .i64 s,.int .i64 t] (.int .i64 s) Tryz.underlying198 (Tryz.sizeOf3 _) (Tryz.isAgg3 _) rfl rfl (by omega) rfl ?_)|(go_at_call 206;refine (F2.out _).mono ?_;rintro e w' ⟨rfl,rfl⟩)|(go_at_call 207;refine (W2.out _).mono ?_;rintro e w' ⟨rfl,rfl⟩))
 rw [rounds_succ]
 go_wp2_with (first|(refine Ux.is_index 198 rfl ?_;refine Ux.wpList_index rfl 198 3 3 2 _ _ rfl #[.int .i64 p,.int .i64 s,.int .i64 t] (.int .i64 t) Tryz.underlying198 (Tryz.sizeOf3 _) (Tryz.isAgg3 _) rfl rfl (by omega) rfl ?_)|(go_at_call 206;refine (F3.out _).mono ?_;rintro e w' ⟨rfl,rfl⟩)|(go_at_call 207;refine (W3.out _).mono ?_;rintro e w' ⟨rfl,rfl⟩))
 rw [rounds_succ]
 cases v
 ·go_wp2
  go_returns
  refine ⟨?_,rfl⟩
  have e:eMk p s t false=y3:=by have:=HA.out.1;unfold eMk;simp;omega
  rw [e]
  rfl
 ·go_wp2
  go_returns
  refine ⟨?_,rfl⟩
  have e:(eMk p s t true:Nat)=y3+1:=by have:=HA.out.1;unfold eMk;simp;omega
  rw [e]
  have h:=HA.out.2
  exact congrArg (fun z=>Ending.returned (.tuple #[.int .u32 z,.int .i64 0])) (by rw [h];omega)
end Go.Proofs.YtmnkinaaoifpeaaGreatDoor
namespace Go.Proofs.YtmnkinaaoifpeaaGreatDoor
open Go.RowKit
open Ux (eP eS eT eV eMk eLetter markW eMark)
set_option maxHeartbeats 2000000 in
theorem of_ (p s t:Nat) (P S T:Int) (hP:P=p) (hS:S=s) (hT:T=t) (v:Bool) (hp:p<65536) (hs:s<256) (ht:t<128) (w:World):Calls Tryz.prog 114 #[.int .i64 P,.int .i64 S,.int .i64 T,.bool v] w fun e w'=>e= .returned (.int .u32 (eMk p s t v:Nat))∧w'=w:=by
 subst hP
 subst hS
 subst hT
 have M:=Lib.hid (emake_ p s t v hp hs ht)
 clear hp hs ht
 go_enter Tryz.func114,Tryz.ntmps114
 go_wp2_with (go_at_call 157;refine (M.out _).mono ?_;rintro e w' ⟨rfl,rfl⟩)
 go_ret
 exact ⟨rfl,rfl⟩
set_option maxHeartbeats 2000000 in
theorem letter_ (c t:Nat) (C T:Int) (hC:C=97+c) (hT:T=t) (hc:c<26) (ht:t<128) (w:World):Calls Tryz.prog 115 #[.int .i32 C,.int .i64 T] w fun e w'=>e= .returned (.int .u32 (eLetter c t:Nat))∧w'=w:=by
 subst hC
 subst hT
 have M:=Lib.hid (of_ (256+8*c) 32 t (256+8*(c:Int)) 32 t (by omega) rfl rfl false (by omega) (by omega) ht)
 have h1:(c:Int)<26:=by omega
 have h0:(0:Int)≤c:=by omega
 have e1:(97+(c:Int))-97=c:=by omega
 unfold eLetter
 clear hc ht
 go_enter Tryz.func115,Tryz.ntmps115
 go_wp2_with (go_at_call 114;refine (M.out _).mono ?_;rintro e w' ⟨rfl,rfl⟩)
 go_ret
 exact ⟨rfl,rfl⟩
set_option maxHeartbeats 2000000 in
set_option maxRecDepth 100000 in
theorem mark_768 (w:World):Calls Tryz.prog 116 #[.int .i64 768] w fun e w'=>e= .returned (.int .u32 (eMark 768:Nat))∧w'=w:=by
 have M:=Lib.hid (of_ 0 37 2 0 37 2 rfl rfl rfl false (by omega) (by omega) (by omega))
 go_enter Tryz.func116,Tryz.ntmps116
 go_wp2_with (first|(refine Ux.is_index 264 rfl ?_;refine Ux.wpList_index rfl 264 3 5 0 _ _ rfl #[.int .i64 37,.int .i64 36,.int .i64 39,.int .i64 45,.int .i64 47] (.int .i64 37) Tryz.underlying264 (Tryz.sizeOf3 _) (Tryz.isAgg3 _) rfl rfl (by omega) rfl ?_)|(go_at_call 114;refine (M.out _).mono ?_;rintro e w' ⟨rfl,rfl⟩))
 go_ret
 exact ⟨rfl,rfl⟩
set_option maxHeartbeats 2000000 in
set_option maxRecDepth 100000 in
theorem mark_769 (w:World):Calls Tryz.prog 116 #[.int .i64 769] w fun e w'=>e= .returned (.int .u32 (eMark 769:Nat))∧w'=w:=by
 have M:=Lib.hid (of_ 0 36 2 0 36 2 rfl rfl rfl false (by omega) (by omega) (by omega))
 go_enter Tryz.func116,Tryz.ntmps116
 go_wp2_with (first|(refine Ux.is_index 264 rfl ?_;refine Ux.wpList_index rfl 264 3 5 1 _ _ rfl #[.int .i64 37,.int .i64 36,.int .i64 39,.int .i64 45,.int .i64 47] (.int .i64 36) Tryz.underlying264 (Tryz.sizeOf3 _) (Tryz.isAgg3 _) rfl rfl (by omega) rfl ?_)|(go_at_call 114;refine (M.out _).mono ?_;rintro e w' ⟨rfl,rfl⟩))
 go_ret
 exact ⟨rfl,rfl⟩
set_option maxHeartbeats 2000000 in
set_option maxRecDepth 100000 in
theorem mark_770 (w:World):Calls Tryz.prog 116 #[.int .i64 770] w fun e w'=>e= .returned (.int .u32 (eMark 770:Nat))∧w'=w:=by
 have M:=Lib.hid (of_ 0 39 2 0 39 2 rfl rfl rfl false (by omega) (by omega) (by omega))
 go_enter Tryz.func116,Tryz.ntmps116
 go_wp2_with (first|(refine Ux.is_index 264 rfl ?_;refine Ux.wpList_index rfl 264 3 5 2 _ _ rfl #[.int .i64 37,.int .i64 36,.int .i64 39,.int .i64 45,.int .i64 47] (.int .i64 39) Tryz.underlying264 (Tryz.sizeOf3 _) (Tryz.isAgg3 _) rfl rfl (by omega) rfl ?_)|(go_at_call 114;refine (M.out _).mono ?_;rintro e w' ⟨rfl,rfl⟩))
 go_ret
 exact ⟨rfl,rfl⟩
set_option maxHeartbeats 2000000 in
set_option maxRecDepth 100000 in
theorem mark_771 (w:World):Calls Tryz.prog 116 #[.int .i64 771] w fun e w'=>e= .returned (.int .u32 (eMark 771:Nat))∧w'=w:=by
 have M:=Lib.hid (of_ 0 45 2 0 45 2 rfl rfl rfl false (by omega) (by omega) (by omega))
 go_enter Tryz.func116,Tryz.ntmps116
 go_wp2_with (first|(refine Ux.is_index 264 rfl ?_;refine Ux.wpList_index rfl 264 3 5 3 _ _ rfl #[.int .i64 37,.int .i64 36,.int .i64 39,.int .i64 45,.int .i64 47] (.int .i64 45) Tryz.underlying264 (Tryz.sizeOf3 _) (Tryz.isAgg3 _) rfl rfl (by omega) rfl ?_)|(go_at_call 114;refine (M.out _).mono ?_;rintro e w' ⟨rfl,rfl⟩))
 go_ret
 exact ⟨rfl,rfl⟩
set_option maxHeartbeats 2000000 in
set_option maxRecDepth 100000 in
theorem mark_772 (w:World):Calls Tryz.prog 116 #[.int .i64 772] w fun e w'=>e= .returned (.int .u32 (eMark 772:Nat))∧w'=w:=by
 have M:=Lib.hid (of_ 0 47 2 0 47 2 rfl rfl rfl false (by omega) (by omega) (by omega))
 go_enter Tryz.func116,Tryz.ntmps116
 go_wp2_with (first|(refine Ux.is_index 264 rfl ?_;refine Ux.wpList_index rfl 264 3 5 4 _ _ rfl #[.int .i64 37,.int .i64 36,.int .i64 39,.int .i64 45,.int .i64 47] (.int .i64 47) Tryz.underlying264 (Tryz.sizeOf3 _) (Tryz.isAgg3 _) rfl rfl (by omega) rfl ?_)|(go_at_call 114;refine (M.out _).mono ?_;rintro e w' ⟨rfl,rfl⟩))
 go_ret
 exact ⟨rfl,rfl⟩
set_option maxHeartbeats 2000000 in
set_option maxRecDepth 100000 in
theorem mark_776 (w:World):Calls Tryz.prog 116 #[.int .i64 776] w fun e w'=>e= .returned (.int .u32 (eMark 776:Nat))∧w'=w:=by
 have M:=Lib.hid (of_ 0 43 2 0 43 2 rfl rfl rfl false (by omega) (by omega) (by omega))
 go_enter Tryz.func116,Tryz.ntmps116
 go_wp2_with (go_at_call 114;refine (M.out _).mono ?_;rintro e w' ⟨rfl,rfl⟩)
 go_ret
 exact ⟨rfl,rfl⟩
set_option maxHeartbeats 2000000 in
set_option maxRecDepth 100000 in
theorem mark_778 (w:World):Calls Tryz.prog 116 #[.int .i64 778] w fun e w'=>e= .returned (.int .u32 (eMark 778:Nat))∧w'=w:=by
 have M:=Lib.hid (of_ 0 41 2 0 41 2 rfl rfl rfl false (by omega) (by omega) (by omega))
 go_enter Tryz.func116,Tryz.ntmps116
 go_wp2_with (go_at_call 114;refine (M.out _).mono ?_;rintro e w' ⟨rfl,rfl⟩)
 go_ret
 exact ⟨rfl,rfl⟩
set_option maxHeartbeats 2000000 in
set_option maxRecDepth 100000 in
theorem mark_807 (w:World):Calls Tryz.prog 116 #[.int .i64 807] w fun e w'=>e= .returned (.int .u32 (eMark 807:Nat))∧w'=w:=by
 have M:=Lib.hid (of_ 0 48 2 0 48 2 rfl rfl rfl false (by omega) (by omega) (by omega))
 go_enter Tryz.func116,Tryz.ntmps116
 go_wp2_with (go_at_call 114;refine (M.out _).mono ?_;rintro e w' ⟨rfl,rfl⟩)
 go_ret
 exact ⟨rfl,rfl⟩
theorem mark_ (c:Nat) (C:Int) (hC:C=c) (hc:c∈[768,769,770,771,772,776,778,807]) (w:World):Calls Tryz.prog 116 #[.int .i64 C] w fun e w'=>e= .returned (.int .u32 (eMark c:Nat))∧w'=w:=by
 subst hC
 simp only [List.mem_cons,List.mem_nil_iff,or_false] at hc
 rcases hc with rfl|rfl|rfl|rfl|rfl|rfl|rfl|rfl
 ·exact mark_768 w
 ·exact mark_769 w
 ·exact mark_770 w
 ·exact mark_771 w
 ·exact mark_772 w
 ·exact mark_776 w
 ·exact mark_778 w
 ·exact mark_807 w
end Go.Proofs.YtmnkinaaoifpeaaGreatDoor
namespace Go.Proofs.YtmnkinaaoifpeaaGreatDoor
open Go.RowKit
open Ux (eP eS eT eV)
def okW (x:Nat):Bool:=(decide (eP x=0)||decide (0<eS x))&&(decide (eS x=0)||decide (0<eT x))&&(!eV x||decide (0<eP x))
set_option maxHeartbeats 4000000 in
set_option maxRecDepth 100000 in
theorem ok_ (x:Nat) (hx:x<4294967296) (w:World):Calls Tryz.prog 195 #[.int .u32 x] w fun e w'=>e= .returned (.bool (okW x))∧w'=w:=by
 have H1:=Lib.hid (weight_ 1 x 1 rfl (.inl rfl) hx w)
 have H2:=Lib.hid (weight_ 2 x 2 rfl (.inr (.inl rfl)) hx w)
 have H3:=Lib.hid (weight_ 3 x 3 rfl (.inr (.inr rfl)) hx w)
 have H4:=Lib.hid (vari_ x hx w)
 have e1:wt 1 x=eP x:=rfl
 have e2:wt 2 x=eS x:=rfl
 have e3:wt 3 x=eT x:=rfl
 rw [e1] at H1
 rw [e2] at H2
 rw [e3] at H3
 unfold okW
 obtain ⟨p,hp⟩: ∃p,eP x=p:=⟨_,rfl⟩
 obtain ⟨s,hs⟩: ∃s,eS x=s:=⟨_,rfl⟩
 obtain ⟨t,ht⟩: ∃t,eT x=t:=⟨_,rfl⟩
 obtain ⟨v,hv⟩: ∃v,eV x=v:=⟨_,rfl⟩
 rw [hp] at H1⊢
 rw [hs] at H2⊢
 rw [ht] at H3⊢
 rw [hv] at H4⊢
 clear e1 e2 e3 hp hs ht hv hx
 go_enter Tryz.func195,Tryz.ntmps195
 go_wp2_with (go_at_call 196;fail)
 refine H1.out.mono ?_
 rintro e w' ⟨rfl,rfl⟩
 go_wp2_with (go_at_call 196;fail)
 refine H2.out.mono ?_
 rintro e w' ⟨rfl,rfl⟩
 go_wp2_with (go_at_call 196;fail)
 refine H3.out.mono ?_
 rintro e w' ⟨rfl,rfl⟩
 clear H1 H2 H3
 go_wp2_with (go_at_call 234;refine H4.out.mono ?_;rintro e w2 ⟨rfl,rfl⟩)
 all_goals go_ret
 all_goals refine ⟨congrArg (fun b=>Ending.returned (Value.bool b)) ?_,rfl⟩
 all_goals (cases v<;>rw [Bool.eq_iff_iff]<;>simp<;>first|omega|(exfalso;simp_all;done))
def badW (x:Nat):Bool:= !okW x||decide (64256≤eP x)
set_option maxHeartbeats 4000000 in
set_option maxRecDepth 100000 in
theorem chk1_ (x:Nat) (hx:x<4294967296) (w:World):Calls Tryz.prog 194 #[.int .u32 x] w fun e w'=>e= .returned (.bool (badW x))∧w'=w:=by
 have H1:=Lib.hid (weight_ 1 x 1 rfl (.inl rfl) hx w)
 have H2:=Lib.hid (ok_ x hx w)
 have e1:wt 1 x=eP x:=rfl
 rw [e1] at H1
 unfold badW
 obtain ⟨p,hp⟩: ∃p,eP x=p:=⟨_,rfl⟩
 obtain ⟨o,ho⟩: ∃o,okW x=o:=⟨_,rfl⟩
 rw [hp] at H1⊢
 rw [ho] at H2⊢
 clear e1 hp ho hx
 go_enter Tryz.func194,Tryz.ntmps194
 cases o
 all_goals go_wp2_with (first|(go_at_call 196;refine H1.out.mono ?_;rintro e w2 ⟨rfl,rfl⟩)|(go_at_call 195;refine H2.out.mono ?_;rintro e w2 ⟨rfl,rfl⟩))
 all_goals go_ret
 all_goals refine ⟨congrArg (fun b=>Ending.returned (Value.bool b)) ?_,rfl⟩
 all_goals (rw [Bool.eq_iff_iff]<;>simp<;>try omega)
end Go.Proofs.YtmnkinaaoifpeaaGreatDoor
