/- A part of the proof that the statement holds for every input that it names. No other condition. -/
import Derived.Test.YtfccjaboicpohaaGreatDoorUxTabAY
set_option linter.unusedVariables false
set_option linter.unusedSimpArgs false
namespace Go.Ux
open Go Go.Maps
variable {P:Program} {k t e:TypeId} {w w':World} {b n:Nat} {f:Lit→Option Value}
end Go.Ux
namespace Go.Ux
open Go Go.RowKit
def hexGo:Nat→Nat→List UInt8→List UInt8
 |0,_,acc=>acc
 |n+1,u,acc=>if u<16 then hd u::acc else hexGo n (u/16) (hd (u % 16)::acc)
def hexS (u:Nat):List UInt8:=hexGo 4 u []
theorem hexGo_len2: ∀(n u m:Nat) (acc:List UInt8),u<16^m→1≤m→m≤n→(hexGo n u acc).length≤acc.length+m
 |0,_,_,_,_,h1,h2=>by omega
 |n+1,u,m,acc,hu,h1,h2=>by
  unfold hexGo
  split
  ·simp;omega
  ·match m,hu,h1,h2 with
   |1,hu,_,_=>omega
   |m+2,hu,_,_=>
    have h16:u/16<16^(m+1):=by rw [Nat.pow_succ] at hu;omega
    have:=hexGo_len2 n (u/16) (m+1) (hd (u % 16)::acc) h16 (by omega) (by omega)
    simp at this
    omega
def hexP (d u:Nat):List UInt8:=List.replicate (d-(hexS u).length) 48++hexS u
def textE (x:Nat):List UInt8:= [91]++(if eV x then [42] else [])++hexP 4 (eP x)++ [46]++hexP 2 (eS x)++ [46]++hexP 2 (eT x)++ [93]
theorem hd_at (d:Nat) (h:d<16):(⟨#[48,49,50,51,52,53,54,55,56,57,97,98,99,100,101,102,103,104,105,106,107,108,109,110,111,112,113,114,115,116,117,118,119,120,121,122]⟩:ByteArray).data[d]? =some (hd d):=by
 have: ∀d,d<16→(#[48,49,50,51,52,53,54,55,56,57,97,98,99,100,101,102,103,104,105,106,107,108,109,110,111,112,113,114,115,116,117,118,119,120,121,122]:Array UInt8)[d]? =some (hd d):=by decide+kernel
 exact this d h
def dcur (n:Nat) (acc:List UInt8):Array Value:=(List.replicate (n-acc.length) (Value.int .u8 0)++bv acc).toArray
theorem dcur_set {n:Nat} {acc:List UInt8} (h:acc.length<n) (d:UInt8):(dcur n acc).setIfInBounds (n-acc.length-1) (.int .u8 (d.toNat:Int))=dcur n (d::acc):=by
 unfold dcur
 rw [List.setIfInBounds_toArray]
 congr 1
 have e:n-acc.length=(n-(d::acc).length)+1:=by simp;omega
 rw [e,List.replicate_succ',List.append_assoc,List.set_append_right _ _ (by simp),List.length_replicate]
 simp [bv]
theorem dcur_at {n:Nat} {acc:List UInt8} (h:acc.length≤n) {j:Nat} {b:UInt8} (hj:acc[j]? =some b):(dcur n acc)[n-acc.length+j]? =some (.int .u8 (b.toNat:Int)):=by
 unfold dcur
 rw [List.getElem?_toArray,List.getElem?_append_right (by simp),List.length_replicate,Nat.add_sub_cancel_left]
 unfold bv
 rw [List.getElem?_map,hj]
 rfl
theorem dcur_zero {n:Nat} {acc:List UInt8} (h:acc.length<n):(dcur n acc)[n-acc.length-1]? =some (.int .u8 0):=by
 unfold dcur
 rw [List.getElem?_toArray,List.getElem?_append_left (by simp;omega),List.getElem?_replicate]
 rw [if_pos (by omega)]
variable {P:Program}
theorem wpList_indexS {ops:Array Oper} {rest:List Oper} {o:Oper} {a:Act} {w:World} {Q:Exit→Act→World→Prop} (hg:o.guard=none) (t:TypeId) (k:IntKind) (x:Nat) (y z:Operand) (ho:o.op= .index t y z) (s:ByteArray) (b:UInt8)
 (hu:P.underlying t=some .string) (hy:a.eval y= .string s) (hz:a.eval z= .int k (x:Int)) (hv:s.data[x]? =some b)
 (h:wpList P ops Q rest (a.put o.dst (.int .u8 (b.toNat:Int))) w):wpList P ops Q (o::rest) a w:=
 wpList_plain hg fun _ hK=>by
  have hx:x<s.size:=(Array.getElem?_eq_some_iff.1 hv).1
  have hb:s[(x:Int).toNat]'(by simpa using hx)=b:=by
   have:=(Array.getElem?_eq_some_iff.1 hv).2
   simp only [Int.toNat_natCast]
   exact this
  have hr:(Instr.index t (.string s) (.int k (x:Int))).run P w= .ok (.int .u8 (b.toNat:Int)) w:=by
   rw [run_index_string w t s k x hu,dif_pos ⟨by omega,by omega⟩,hb]
  unfold Oper.wp execOp
  simp only [ho,hy,hz,Sem.run_bind,Sem.run_pure,Result.andThen_ok,hr]
  exact hK _ _ h
end Go.Ux
