/- A part of the proof that the statement holds for every input that it names. No other condition. -/
import Derived.Test.YtclffhpdekepkaaDoorUxNumAZ
set_option linter.unusedVariables false
set_option linter.unusedSimpArgs false
namespace Go.Ux.Sign
open Go
theorem signs_put_cp: ∀{l:List Nat},(∀c∈l,cp c)→∀x,signs (put l++x)=l++signs x
 | [],_,x=>rfl
 |c::l,h,x=>by
  have hc:=h c (by simp)
  have h1:=sg_enc hc (put l++x)
  have hne:enc c≠[]:=fun e=>by
   have h2:=sgN_one (bt (enc c++(put l++x)) 0) (bt (enc c++(put l++x)) 1) (bt (enc c++(put l++x)) 2) (bt (enc c++(put l++x)) 3)
   have h3:(sg (enc c++(put l++x))).2=(enc c).length:=by rw [h1]
   rw [e] at h3 h2
   simp at h3
   have h4:1≤(sg ([]++(put l++x))).2:=h2
   simp at h4
   omega
  rw [put_cons,List.append_assoc,signs_cons (by simp [hne]),h1]
  show c::signs ((enc c++(put l++x)).drop (enc c).length)=_
  rw [List.drop_left,signs_put_cp (fun d hd=>h d (by simp [hd])) x]
  rfl
end Go.Ux.Sign
