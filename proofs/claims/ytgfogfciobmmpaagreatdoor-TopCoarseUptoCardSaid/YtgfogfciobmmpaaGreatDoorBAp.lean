/- A part of the proof of a law of carouseltop: Core4. -/
import Derived.Test.YtgfogfciobmmpaaGreatDoorBAm
set_option linter.unusedSimpArgs false
set_option linter.unusedVariables false
set_option maxRecDepth 100000
set_option maxHeartbeats 8000000
namespace Go.Proofs.YtgfogfciobmmpaaGreatDoor
open Go.RowKit
section
variable {w0:World}{X:List Nat}{Cs:List aw}{w:World}{x p L:Nat}{wv tv:Value}{t:bZ}{q:dX}{F:List Nat}{m:au}
def dE(y:es):Value:=.agg #[.int .i64 y.kind,.int .i64 y.cell,.int .i64 y.value,.int .i64 y.code]
theorem fits_tx(hS:ah w0 X (ag x (lM q.g wv tv t)::aG p m L F::Cs) w)(y:es) :
  Calls Tryz.prog 83 #[ptr x,ptr p,dE y] w (fun e w'=>e=.returned (.bool (cz m t y))/\ah w0 X (ag x (lM q.g wv tv t)::aG p m L F::Cs) w'):=by
 obtain⟨kind,cell,value,code⟩:=y
 have HZ:=kH ((hS.new (.cells #[.int .i64 kind,.int .i64 cell,.int .i64 value,.int .i64 code] 109 (0,0))).f2.sizes)
 unfold dE
 generalize hR:cz m t ⟨kind,cell,value,code⟩=R
 unfold cz at hR
 simp only at hR
 have HR:=kH hR
 clear hS hR
 unfold ptr at *
 go_enter Tryz.func83,Tryz.ntmps83
 go_wp2_with fail
 refine HZ.out.mono ?_
 rintro e w1 ⟨rfl,S1⟩
 have a0:=S1.cell1 0
 have a1:=S1.cell1 1
 have a3:=S1.cell1 3
 have b1:=S1.cell2 1
 have b8:=S1.cell2 8
 simp only[fu,gA,gZ,gS]at a0 a1 a3 b1 b8
 have HS1:=kH S1.sw.drop.sw
 generalize t.ring=ring at *
 generalize t.phase=phase at *
 generalize m.ring=mr at *
 generalize m.cells.length=nc at *
 clear S1
 by_cases hring:mr=ring
 rotate_left
 ·have hrb:(mr == ring)=false:=by simpa using hring
  have HRB:=kH hring
  go_wp2
  go_ret
  exact⟨by have h:=HR.out;rw[decide_eq_false HRB.out]at h;simp at h;rw[h];rfl,HS1.out⟩
 ·subst hring
  by_cases h1:kind=1
  ·subst h1
   have HH:=kH HR.out
   go_wp2
   go_ret
   exact⟨by have h:=HH.out;simp at h;rw[<-h];rfl,HS1.out⟩
  ·by_cases h23:kind=2\/kind=3
   ·by_cases hp:phase=2
    ·by_cases hc0:0<=cell
     ·by_cases hc1:cell<nc
      ·have hh:R=true:=by have h:=HR.out;rw[if_neg h1,if_pos h23]at h;simp[hp,hc0,hc1]at h;exact h
       have HH:=kH hh
       clear hh
       subst hp
       rcases h23 with rfl|rfl
       all_goals
        go_wp2
        go_ret
        exact⟨by rw[HH.out];rfl,HS1.out⟩
      ·have hh:R=false:=by have h:=HR.out;rw[if_neg h1,if_pos h23]at h;simp[hp,hc0,hc1]at h;exact h
       have d1:decide (cell<(nc:Int))=false:=decide_eq_false hc1
       have HH:=kH hh
       clear hh
       subst hp
       rcases h23 with rfl|rfl
       all_goals
        go_wp2
        go_ret
        exact⟨by rw[HH.out];rfl,HS1.out⟩
     ·have hh:R=false:=by have h:=HR.out;rw[if_neg h1,if_pos h23]at h;simp[hp,hc0]at h;exact h
      have HH:=kH hh
      clear hh
      subst hp
      rcases h23 with rfl|rfl
      all_goals
       go_wp2
       go_ret
       exact⟨by rw[HH.out];rfl,HS1.out⟩
    ·have hpb:(phase == 2)=false:=by simpa using hp
     have hh:R=false:=by have h:=HR.out;rw[if_neg h1,if_pos h23]at h;simp[hp]at h;exact h
     have HH:=kH hh
     clear hh
     rcases h23 with rfl|rfl
     all_goals
      go_wp2
      go_ret
      exact⟨by rw[HH.out];rfl,HS1.out⟩
   ·have h2:kind≠2:=fun e=>h23 (.inl e)
    have h3:kind≠3:=fun e=>h23 (.inr e)
    by_cases h4:kind=4
    ·have hh:R=decide (phase=2):=by have h:=HR.out;rw[if_neg h1,if_neg h23,if_pos h4]at h;simp at h;rw[<-h]
     have HH:=kH hh
     clear hh
     subst h4
     by_cases hp:phase=2
     ·subst hp
      go_wp2
      go_ret
      exact⟨by rw[HH.out];rfl,HS1.out⟩
     ·have hpb:(phase == 2)=false:=by simpa using hp
      have HP:=kH hp
      go_wp2
      go_ret
      exact⟨by rw[HH.out,decide_eq_false HP.out];rfl,HS1.out⟩
    ·by_cases h5:kind=5
     ·have hh:R=decide (phase=2/\(code=8\/code=7)):=by have h:=HR.out;rw[if_neg h1,if_neg h23,if_neg h4,if_pos h5]at h;simp at h;rw[<-h];simp
      have HH:=kH hh
      clear hh
      subst h5
      by_cases hp:phase=2
      ·subst hp
       by_cases h8:code=8
       ·subst h8
        go_wp2
        go_ret
        exact⟨by rw[HH.out];rfl,HS1.out⟩
       ·have h8b:(code == 8)=false:=by simpa using h8
        by_cases h7:code=7
        ·subst h7
         go_wp2
         go_ret
         exact⟨by rw[HH.out];rfl,HS1.out⟩
        ·have h7b:(code == 7)=false:=by simpa using h7
         have hh:R=false:=by have h:=HH.out;rw[h];exact decide_eq_false (fun e=>e.2.elim h8 h7)
         have HD:=kH hh
         clear hh
         go_wp2
         go_ret
         exact⟨by rw[HD.out];rfl,HS1.out⟩
      ·have hpb:(phase == 2)=false:=by simpa using hp
       have hh:R=false:=by have h:=HH.out;rw[h];exact decide_eq_false (fun e=>hp e.1)
       have HD:=kH hh
       clear hh
       go_wp2
       go_ret
       exact⟨by rw[HD.out];rfl,HS1.out⟩
     ·have hh:R=false:=by have h:=HR.out;rw[if_neg h1,if_neg h23,if_neg h4,if_neg h5]at h;simp at h;rw[h]
      have HH:=kH hh
      clear hh
      have e1:(kind == 1)=false:=by simpa using h1
      have e2:(kind == 2)=false:=by simpa using h2
      have e3:(kind == 3)=false:=by simpa using h3
      have e4:(kind == 4)=false:=by simpa using h4
      have e5:(kind == 5)=false:=by simpa using h5
      clear h1 h2 h3 h4 h5 h23
      go_wp2
      go_ret
      exact⟨by rw[HH.out];rfl,HS1.out⟩
end
end Go.Proofs.YtgfogfciobmmpaaGreatDoor
