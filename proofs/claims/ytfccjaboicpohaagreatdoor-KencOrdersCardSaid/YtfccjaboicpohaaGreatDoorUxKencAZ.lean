/- A part of the proof that the statement holds for every input that it names. No other condition. -/
set_option linter.unusedVariables false
set_option linter.unusedSimpArgs false
namespace Go.Ux
def esc1 (b:UInt8):List UInt8:=if b=0 then [0,255] else [b]
def escB (l:List UInt8):List UInt8:=l.flatMap esc1
def esc (l:List UInt8):List UInt8:=escB l++ [0,1]
theorem esc_nil:esc []= [0,1]:=rfl
theorem escB_cons (b:UInt8) (l:List UInt8):escB (b::l)=esc1 b++escB l:=rfl
theorem escB_snoc (b:UInt8) (l:List UInt8):escB (l++ [b])=escB l++esc1 b:=by simp [escB]
theorem esc_cons (b:UInt8) (l:List UInt8):esc (b::l)=esc1 b++esc l:=by unfold esc;rw [escB_cons,List.append_assoc]
theorem escB_length (l:List UInt8):l.length≤(escB l).length∧(escB l).length≤2*l.length:=by
 induction l with
 |nil=>exact ⟨Nat.le_refl _,Nat.le_refl _⟩
 |cons b l ih=>
  rw [escB_cons,List.length_append]
  have:(esc1 b).length=1∨(esc1 b).length=2:=by unfold esc1;split<;>simp
  simp only [List.length_cons]
  omega
def une:List UInt8→List UInt8→Nat→List UInt8×Nat×Int
 | [],_,_=>([],0,4)
 |b::r,acc,u=>
  if b=0 then
   match r with
   | []=>([],0,4)
   |c::r'=>if c=1 then (acc,u+2,0) else if c=255 then une r' (acc++ [0]) (u+2) else ([],0,3)
  else une r (acc++ [b]) (u+1)
theorem une_esc (a:List UInt8): ∀(x acc:List UInt8) (u:Nat),une (esc a++x) acc u=(acc++a,u+(esc a).length,0):=by
 induction a with
 |nil=>intro x acc u;rw [esc_nil];simp [une]
 |cons b a ih=>
  intro x acc u
  rw [esc_cons,List.append_assoc]
  unfold esc1
  by_cases hb:b=0
  ·subst hb
   simp only [if_true,List.cons_append,List.nil_append]
   rw [une]
   simp only [if_true]
   rw [if_neg (by decide),ih]
   simp [Nat.add_assoc,Nat.add_comm,Nat.add_left_comm]
   omega
  ·simp only [if_neg hb,List.cons_append,List.nil_append]
   rw [une.eq_def]
   simp only [if_neg hb]
   rw [ih]
   simp [Nat.add_assoc,Nat.add_comm,Nat.add_left_comm]
theorem pos_of_ne {c:UInt8} (h:c≠0):(0:UInt8)<c:=by
 rw [UInt8.lt_iff_toNat_lt]
 have:c.toNat≠0:=fun e=>h (UInt8.toNat_inj.1 e)
 show 0<c.toNat
 omega
theorem esc_lt: ∀(a b x y:List UInt8),a<b→esc a++x<esc b++y
 | [],[],x,y,h=>by cases h
 | [],c::b,x,y,_=>by
   rw [esc_nil,esc_cons]
   unfold esc1
   by_cases hc:c=0
   ·rw [if_pos hc]
    exact List.Lex.cons (List.Lex.rel (by decide))
   ·rw [if_neg hc]
    exact List.Lex.rel (pos_of_ne hc)
 |c::a,[],x,y,h=>by cases h
 |c::a,d::b,x,y,h=>by
  rw [esc_cons,esc_cons]
  rcases List.cons_lt_cons_iff.1 h with hcd|⟨rfl,hab⟩
  ·have hd:d≠0:=fun e=>by
    rw [e,UInt8.lt_iff_toNat_lt] at hcd
    exact absurd hcd (Nat.not_lt_zero _)
   unfold esc1
   rw [if_neg hd]
   by_cases hc:c=0
   ·rw [if_pos hc]
    exact List.Lex.rel (pos_of_ne hd)
   ·rw [if_neg hc]
    exact List.Lex.rel hcd
  ·have ih:=esc_lt a b x y hab
   unfold esc1
   by_cases hc:c=0
   ·simp only [if_pos hc,List.cons_append,List.nil_append]
    exact List.Lex.cons (List.Lex.cons ih)
   ·simp only [if_neg hc,List.cons_append,List.nil_append]
    exact List.Lex.cons ih
end Go.Ux
namespace Go.Ux
def tk:List UInt8→Nat×Int
 | []=>(0,4)
 |b::r=>
  if b=1 then (1,0)
  else if b=2 then (match r with
   | []=>(0,4)
   |c::_=>if 1<c.toNat then (0,3) else (2,0))
  else if b=3 then (if r.length<8 then (0,4) else (9,0))
  else if b=4 then (if (une r [] 0).2.2=0 then (1+(une r [] 0).2.1,0) else (0,(une r [] 0).2.2))
  else (0,3)
theorem tk_cons (b:UInt8) (r:List UInt8):tk (b::r)=if b=1 then ((1:Nat),(0:Int))
 else if b=2 then (match r with
  | []=>(0,4)
  |c::_=>if 1<c.toNat then (0,3) else (2,0))
 else if b=3 then (if r.length<8 then (0,4) else (9,0))
 else if b=4 then (if (une r [] 0).2.2=0 then (1+(une r [] 0).2.1,0) else (0,(une r [] 0).2.2))
 else (0,3):=rfl
inductive IsVal:List UInt8→Prop
 |null:IsVal [1]
 |bool (b:UInt8) (h:b.toNat≤1):IsVal [2,b]
 |int (e:List UInt8) (h:e.length=8):IsVal (3::e)
 |text (s:List UInt8):IsVal (4::esc s)
theorem tk_val {a:List UInt8} (h:IsVal a) (more:List UInt8):tk (a++more)=(a.length,0):=by
 cases h with
 |null=>rfl
 |bool b h=>
  show tk (2::b::more)=(2,0)
  rw [tk_cons,if_neg (by decide),if_pos rfl]
  exact if_neg (by omega)
 |int e h=>
  rw [List.cons_append,tk_cons,if_neg (by decide),if_neg (by decide),if_pos rfl,if_neg (by rw [List.length_append];omega),List.length_cons,h]
 |text s=>
  rw [List.cons_append,tk_cons,if_neg (by decide),if_neg (by decide),if_neg (by decide),if_pos rfl,une_esc,if_pos rfl]
  simp only [List.length_cons,Prod.mk.injEq,and_true]
  omega
theorem no_begin {a b:List UInt8} (ha:IsVal a) (hb:IsVal b) (h:a<+:b):a=b:=by
 obtain ⟨t,rfl⟩:=h
 have h1:=tk_val ha t
 have h2:=tk_val hb []
 rw [List.append_nil,h1] at h2
 have h3:a.length=(a++t).length:=congrArg Prod.fst h2
 rw [List.length_append] at h3
 have:t= []:=List.length_eq_zero_iff.1 (by omega)
 rw [this,List.append_nil]
def turn (s:List UInt8):List UInt8:=s.map fun c=>255-c
end Go.Ux
