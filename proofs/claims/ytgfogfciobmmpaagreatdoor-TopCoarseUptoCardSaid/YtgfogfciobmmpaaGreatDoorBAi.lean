/- A part of the proof of a law of carouseltop: PlcPRefCheck. -/
import Derived.Test.YtgfogfciobmmpaaGreatDoorBAf
set_option linter.unusedSimpArgs false
set_option linter.unusedVariables false
set_option maxRecDepth 100000
set_option maxHeartbeats 8000000
namespace Go.Proofs.YtgfogfciobmmpaaGreatDoor
open Go.RowKit
namespace Plc
open Go.RowKit
theorem pD(w:World)(B:Nat)(c:Cfg)(v:Value)(rs:List (Int×Int))(hr:ReadsR w B v rs)(hf:gr c rs.length=false) :
  Calls Tryz.prog 36 #[c.val v] w (dd (.int .i64 13) w):=by
 obtain⟨hl,a,cp,rfl,hcp,hcm,-⟩:=hr
 obtain⟨raw,ring,writes,stamps,multi,tries⟩:=c
 have hf':=of_decide_eq_false hf
 dsimp only at hf'
 unfold Cfg.val Cfg.cells
 dsimp only
 clear hf
 rcases(show raw<1\/(1<=raw/\64<raw)\/(1<=raw/\raw<=64)from by omega)with z|⟨z0,z⟩|⟨a0,b0⟩
 ·clear hf'
  go_enter Tryz.func36,Tryz.ntmps36
  go_wp2
  go_ret
  exact⟨rfl,ai _ _⟩
 ·clear hf'
  go_enter Tryz.func36,Tryz.ntmps36
  go_wp2
  go_ret
  exact⟨rfl,ai _ _⟩
 rcases(show ring<1\/(1<=ring/\16<ring)\/(1<=ring/\ring<=16)from by omega)with z|⟨z0,z⟩|⟨a1,b1⟩
 ·clear hf'
  go_enter Tryz.func36,Tryz.ntmps36
  go_wp2
  go_ret
  exact⟨rfl,ai _ _⟩
 ·clear hf'
  go_enter Tryz.func36,Tryz.ntmps36
  go_wp2
  go_ret
  exact⟨rfl,ai _ _⟩
 rcases(show writes<1\/(1<=writes/\24<writes)\/(1<=writes/\writes<=24)from by omega)with z|⟨z0,z⟩|⟨a2,b2⟩
 ·clear hf'
  go_enter Tryz.func36,Tryz.ntmps36
  go_wp2
  go_ret
  exact⟨rfl,ai _ _⟩
 ·clear hf'
  go_enter Tryz.func36,Tryz.ntmps36
  go_wp2
  go_ret
  exact⟨rfl,ai _ _⟩
 rcases(show stamps<1\/(1<=stamps/\1099511627776<stamps)\/(1<=stamps/\stamps<=1099511627776)from by omega)with z|⟨z0,z⟩|⟨a3,b3⟩
 ·clear hf'
  go_enter Tryz.func36,Tryz.ntmps36
  go_wp2
  go_ret
  exact⟨rfl,ai _ _⟩
 ·clear hf'
  go_enter Tryz.func36,Tryz.ntmps36
  go_wp2
  go_ret
  exact⟨rfl,ai _ _⟩
 rcases(show tries<1\/(1<=tries/\255<tries)\/(1<=tries/\tries<=255)from by omega)with z|⟨z0,z⟩|⟨a4,b4⟩
 ·clear hf'
  go_enter Tryz.func36,Tryz.ntmps36
  go_wp2
  go_ret
  exact⟨rfl,ai _ _⟩
 ·clear hf'
  go_enter Tryz.func36,Tryz.ntmps36
  go_wp2
  go_ret
  exact⟨rfl,ai _ _⟩
 have z:(8:Int)<(rs.length:Int):=by omega
 clear hf'
 go_enter Tryz.func36,Tryz.ntmps36
 go_wp2
 go_ret
 exact⟨rfl,ai _ _⟩
theorem rX(w:World)(B:Nat)(c:Cfg)(v:Value)(rs:List (Int×Int))(hr:ReadsR w B v rs)(hB:B<=w.heap.size)(hf:gr c rs.length=true) :
  Calls Tryz.prog 36 #[c.val v] w (dd (.int .i64 (checkE c rs)) w):=by
 obtain⟨hl,a,cp,rfl,hcp,hcm,hr⟩:=hr
 have HALL:=kH (sP hf)
 have HREG:=kH (fun k hk h=>check_reg (c:=c) (rs:=rs) (k:=k) hk h)
 generalize checkE c rs=E at *
 obtain⟨raw,ring,writes,stamps,multi,tries⟩:=c
 obtain⟨h1,h1',h2,h2',h3,h3',h4,h4',h5,h5',h6⟩:=of_decide_eq_true hf
 dsimp only at h1 h1' h2 h2' h3 h3' h4 h4' h5 h5'
 have h6':(rs.length:Int)<=8:=by omega
 have HR:=kH hr
 unfold Cfg.val Cfg.cells
 dsimp only
 clear hf hr
 go_enter Tryz.func36,Tryz.ntmps36
 go_wp2
 go_loopg[3] (rs.length+1) (fun n v3 wr=>∃ (k:Nat),k<=rs.length/\v3=.int .i64 k/\n+k=rs.length+1/\(∀ j,j<k->regB (rs.getD j (0,0)).1 (rs.getD j (0,0)).2=true)/\wr.heap[w.heap.size]?=some (.cells #[.int .i64 raw,.int .i64 ring,.int .i64 writes,.int .i64 stamps,.bool multi,.int .i64 tries,.slice a rs.length cp] 24 (0,0))/\Below w.heap.size w wr)
 case atStart=>exact⟨0,Nat.zero_le _,rfl,rfl,fun j hj=>by omega,aj rfl,ai _ _⟩
 case round =>
  obtain⟨k,hk,rfl,hn,hall,hC,bel⟩:=hrel
  have HC:=kH hC
  obtain⟨q0,q1,q2,q3,q4,q5,q6⟩:=iD hC
  have HN:=kH hn
  have HA:=kH hall
  clear hn hall hC
  have hwsz:=(Array.getElem?_eq_some_iff.1 HC.out).1
  by_cases hlt:k<rs.length
  ·rcases HR.out with h|⟨b,off,rfl,hbB,hcell⟩
   ·exact absurd hlt (by rw[h];simp)
   have hc0:=(bel.cell (p:=⟨b,off+k*2,none⟩) (by simp;omega)).trans (hcell k hlt).1
   have hc1:=(bel.cell (p:=⟨b,off+k*2+1,none⟩) (by simp;omega)).trans (hcell k hlt).2
   have hreg:=HREG.out k hlt
   have HA':Hid (regB (rs.getD k (0,0)).1 (rs.getD k (0,0)).2=true->∀ j,j<k+1->regB (rs.getD j (0,0)).1 (rs.getD j (0,0)).2=true):=fun h j hj=>by
    by_cases e:j=k
    ·subst e;exact h
    ·exact HA.out j (by omega)
   generalize (rs.getD k (0,0)).1=kind at *
   generalize (rs.getD k (0,0)).2=cap at *
   have hbs:b<wr.heap.size:=by have:=bel.size;omega
   have hlt':(k:Int)<(rs.length:Int):=by omega
   clear hcell
   by_cases hb:regB kind cap=true
   ·have he:=mH hb
    rw[if_pos rfl]at he
    clear hreg
    have HB:=kH hb
    have HE:=kH he
    clear hb he
    go_wp2_with fail
    refine(pp kind cap _).mono ?_
    rintro e w1 ⟨rfl,hb1⟩
    simp only[mG,HE.out]
    have HC1:=kH (kM hb1 HC.out)
    go_wp2
    go_roundg (rs.length-k)
    case measure=>have:=HN.out;omega
    case rel=>exact⟨k+1,by omega,by go_num,by omega,HA'.out HB.out,HC1.out,bel.trans (hb1.mono bel.size)⟩
   ·have hb':regB kind cap=false:=by simpa using hb
    have he:=mH hb'
    rw[if_neg (by decide)]at he
    have HE:=kH he
    have HF:=kH (hreg hb')
    clear hb hb' he hreg
    go_wp2_with fail
    refine(pp kind cap _).mono ?_
    rintro e w1 ⟨rfl,hb1⟩
    simp only[mG,HE.out]
    go_wp2
    go_ret
    exact⟨by rw[HF.out];rfl,bel.trans (hb1.mono bel.size)⟩
  ·have HF:=kH (HALL.out (fun j hj=>HA.out j (by omega)))
   have hk':k=rs.length:=by omega
   subst hk'
   go_wp2
   go_ret
   exact⟨by rw[HF.out];rfl,bel⟩
theorem RefCheck_calls(w:World)(B:Nat)(c:Cfg)(v:Value)(rs:List (Int×Int))(hr:ReadsR w B v rs)(hB:B<=w.heap.size) :
  Calls Tryz.prog 36 #[c.val v] w (dd (.int .i64 (checkE c rs)) w):=by
 by_cases hf:gr c rs.length=true
 ·exact rX w B c v rs hr hB hf
 ·rw[nC (by simpa using hf)]
  exact pD w B c v rs hr (by simpa using hf)
end Plc
end Go.Proofs.YtgfogfciobmmpaaGreatDoor
