/- A part of the proof of a law of carouseltop: Pick Crs0 Ref3 CrsA. -/
import Derived.Test.YtgfogfciobmmpaaGreatDoorBBn
set_option linter.unusedSimpArgs false
set_option linter.unusedVariables false
set_option maxRecDepth 100000
set_option maxHeartbeats 8000000
namespace Go.Proofs.YtgfogfciobmmpaaGreatDoor
open Go.RowKit
def mN(p:Nat->Bool)(n:Nat):List Int:=(List.range n).foldl (fun s k=>if p k=true then cT s k else s) bQ
theorem lf(p:Nat->Bool)(n:Nat):mN p (n+1)=if p n=true then cT (mN p n) n else mN p n:=by
 unfold mN
 rw[List.range_succ,List.foldl_append]
 rfl
theorem gJ(p:Nat->Bool):∀ n,n<=512->aU (mN p n)
 | 0,_=>cD
 | n+1,h=>by
  rw[lf]
  split
  ·exact pX (gJ p n (by omega)) n
  ·exact gJ p n (by omega)
theorem oG(p:Nat->Bool)(j:Nat):∀ n,n<=512->hasB (mN p n) j=(decide (j<n)&&p j)
 | 0,_=>by rw[show mN p 0=bQ from rfl,A4];simp
 | n+1,h=>by
  have ih:=oG p j n (by omega)
  rw[lf]
  split
  ·rename_i hp
   rw[jL (gJ p n (by omega)) (by omega),ih]
   by_cases e:n=j
   ·subst e;simp[hp]
   ·have:decide (j<n+1)=decide (j<n):=by simp;omega
    rw[this]
    simp[e]
  ·rename_i hp
   rw[ih]
   by_cases e:n=j
   ·subst e;simp[hp]
   ·have:decide (j<n+1)=decide (j<n):=by simp;omega
    rw[this]
def eN(a b:List Int):Nat->List Int:=mN fun k=>hasB a k||hasB b k
def fG(a b:List Int):Nat->List Int:=mN fun k=>hasB a k&&hasB b k
def dt(s:List Int)(n:Nat):List Int:=((List.range n).filter (hasB s)).map fun(k:Nat)=>(k:Int)
theorem lF(s:List Int)(n:Nat):dt s (n+1)=if hasB s n=true then dt s n++[(n:Int)]else dt s n:=by
 unfold dt
 rw[List.range_succ,List.filter_append,List.map_append]
 split
 ·rename_i h
  rw[List.filter_cons_of_pos h]
  rfl
 ·rename_i h
  rw[List.filter_cons_of_neg h]
  simp
theorem nD(s:List Int):∀ n,(dt s n).length<=n
 | 0=>Nat.le_refl _
 | n+1=>by
  have:=nD s n
  rw[lF]
  split
  ·rw[List.length_append];simp;omega
  ·omega
theorem sQ{s:List Int}(hs:aU s)(x:Int):∀ n,(dt (be s x) n).length<=(dt s n).length+if ek x<n then 1 else 0
 | 0=>Nat.le_add_right _ _
 | n+1=>by
  have ih:=sQ hs x n
  rw[lF,lF,im hs]
  by_cases e:ek x=n
  ·rw[if_neg (show ¬ek x<n by omega)]at ih
   rw[if_pos (show ek x<n+1 by omega),if_pos (show(hasB s n||decide (ek x=n))=true by simp[e]),List.length_append]
   have h1:[(n:Int)].length=1:=rfl
   split
   ·rw[List.length_append];omega
   ·omega
  ·have e2:(hasB s n||decide (ek x=n))=hasB s n:=by simp[e]
   have e3:(if ek x<n+1 then 1 else 0)=if ek x<n then 1 else 0:=by
    by_cases h:ek x<n
    ·rw[if_pos h,if_pos (by omega)]
    ·rw[if_neg h,if_neg (by omega)]
   rw[e2,e3]
   split
   ·rw[List.length_append,List.length_append];omega
   ·exact ih
def mU(a b:List Int):Bool:=decide ((dt (fG a b 512) 512).length≠0)
theorem and_bit(a b:Nat)(ha:a<18446744073709551616)(hb:b<18446744073709551616)(h:bits .and .u64 (a:Int) (b:Int)≠0):∃ i,i<64/\a.testBit i=true/\b.testBit i=true:=by
 rw[uf a b ha hb]at h
 have h2:a &&& b≠0:=fun e=>h (by rw[e];rfl)
 obtain⟨i,hi⟩:=Nat.exists_testBit_of_ne_zero h2
 rw[Nat.testBit_and,Bool.and_eq_true]at hi
 refine⟨i,?_,hi⟩
 rcases Nat.lt_or_ge i 64 with h3|h3
 ·exact h3
 ·have:=Nat.testBit_lt_two_pow (Nat.lt_of_lt_of_le ha (Nat.pow_le_pow_right (n:=2) (i:=64) (by decide) h3))
  rw[this]at hi
  exact nomatch hi.1
theorem CJ{a b:List Int}(ha:aU a)(hb:aU b)(h:ij a b=true):∃ k,k<512/\hasB a k=true/\hasB b k=true:=by
 unfold ij at h
 obtain⟨j,hj,h2⟩:=List.any_eq_true.1 h
 have hj8:j<8:=by simpa using hj
 have h3:=of_decide_eq_true h2
 obtain⟨n,hn,hnl⟩:=rP (dx ha.2 j)
 obtain⟨m,hm,hml⟩:=rP (dx hb.2 j)
 rw[hn,hm]at h3
 obtain⟨i,hi,q1,q2⟩:=and_bit n m hnl hml h3
 refine⟨64*j+i,by omega,?_,?_⟩
 ·unfold hasB
  rw[show(64*j+i)/64=j by omega,show(64*j+i)%64=i by omega,hn]
  simpa using q1
 ·unfold hasB
  rw[show(64*j+i)/64=j by omega,show(64*j+i)%64=i by omega,hm]
  simpa using q2
theorem CK{a b:List Int}(ha:aU a)(hb:aU b)(h:ij a b=true):mU a b=true:=by
 obtain⟨k,hk,h1,h2⟩:=CJ ha hb h
 unfold mU
 rw[decide_eq_true_eq]
 have hm:(k:Int)∈dt (fG a b 512) 512:=by
  unfold dt
  refine List.mem_map.2 ⟨k,List.mem_filter.2 ⟨List.mem_range.2 hk,?_⟩,rfl⟩
  unfold fG
  rw[oG _ _ _ (Nat.le_refl _),h1,h2]
  simpa using hk
 have:=List.length_pos_of_mem hm
 omega
section
variable {c:cN}
def kp(P:List (List Int))(start:Int)(s:List Int)(n:Nat):Bool:=(List.range n).foldl (fun(b:Bool) (k:Nat)=>b||(decide (start<=(k:Int))&&mU (P.getD k []) s)) false
theorem sk(P:List (List Int))(start:Int)(s:List Int)(n:Nat):kp P start s (n+1)=(kp P start s n||(decide (start<=(n:Int))&&mU (P.getD n []) s)):=by
 unfold kp
 rw[List.range_succ,List.foldl_append]
 rfl
theorem zp{P:List (List Int)}{start:Int}{s:List Int}{k:Nat}(h:start<=(k:Int))(hm:mU (P.getD k []) s=true):∀ n,k<n->kp P start s n=true
 | n+1,hk=>by
  rw[sk]
  by_cases e:k=n
  ·subst e
   rw[hm,decide_eq_true h]
   simp
  ·rw[zp h hm n (by omega)]
   rfl
structure CrsF(A:List dh)(x:dh):Prop where
 ok:aU (aV (bh x.tx A))/\aU x.e.sig
 all:eN (aV (bh x.tx A)) x.e.sig 512=x.e.sig
 few:(dt x.e.sig 512).length<=(dt (aV (bh x.tx A)) 512).length+1
 met:x.e.err=3->kp (bP A) x.e.start x.e.sig (bP A).length=true
 same:x.e.err=0->aV (bh x.tx A)=x.e.sig
theorem zq{A:List dh}(h:dB c A):∀ g∈bP A,aU g:=fun g hg=>by
 unfold bP at hg
 obtain⟨y,hy,rfl⟩:=List.mem_map.1 hg
 obtain⟨hy,h4⟩:=List.mem_filter.1 hy
 obtain⟨A1,A2,rfl⟩:=List.append_of_mem hy
 exact(jj (h A1 y A2 rfl) (by simpa using h4)).2.2.1
theorem crs_ok{A B:List dh}{x:dh}(h:dB c (A++x::B))(h6:x.e.kind=6):CrsF A x:=by
 obtain⟨s1,⟨o1,o2,o3⟩,hw⟩:=(od (h A x B rfl) h6).2
 have hP:=zq h.left
 have hsub:∀ k,hasB (aV (bh x.tx A)) k=true->hasB x.e.sig k=true:=fun k hk=>by
  rcases s1 with s1|⟨z,s1⟩
  ·rw[s1];exact hk
  ·rw[s1,im o1,hk];rfl
 refine⟨⟨o1,o2⟩,?_,?_,fun h3=>?_,fun h0=>?_⟩
 ·refine tq (gJ _ _ (Nat.le_refl _)) o2 fun k hk=>?_
  unfold eN
  rw[oG _ _ _ (Nat.le_refl _),decide_eq_true hk]
  cases e:hasB (aV (bh x.tx A)) k with
  | false=>simp
  | true=>rw[hsub k e];rfl
 ·rcases s1 with s1|⟨z,s1⟩
  ·rw[s1];omega
  ·rw[s1]
   have:=sQ o1 z 512
   split at this<;>omega
 ·have hm:Met (bP A) x.e.start x.e.sig:=by
   rcases hw with⟨k1,-⟩|⟨-,k2⟩|⟨k1,-⟩|⟨k1,-⟩|⟨k1,-⟩|k1|k1
   ·omega
   ·exact k2
   all_goals omega
  obtain⟨k,g,m1,m2,m3⟩:=hm
  have hk:=(List.getElem?_eq_some_iff.1 m1).1
  refine zp (k:=k) (by omega) ?_ _ hk
  rw[List.getD_eq_getElem?_getD,m1]
  exact CK (hP g (List.mem_of_getElem? m1)) o2 m3
 ·rcases hw with⟨-,-,k3⟩|⟨k1,-⟩|⟨k1,-⟩|⟨k1,-⟩|⟨k1,-⟩|k1|k1
  ·exact k3.symm
  all_goals omega
theorem crs_pub{A B:List dh}{x:dh}(h:dB c (A++x::B))(h4:x.e.kind=4):cn (bh x.tx A)=x.e.sig/\aU x.e.sig:=by
 obtain⟨-,q2,q3,-⟩:=jj (h A x B rfl) h4
 exact⟨q2.symm,q3⟩
theorem xf(l:List bM):aU (cn l):=by
 have h:∀ (l:List bM) (s:List Int),aU s->aU (l.foldl (fun s e=>if eg e=true then be s e.cell else s) s):=by
  intro l
  induction l with
  | nil=>exact fun s hs=>hs
  | cons e l ih =>
   intro s hs
   refine ih _ ?_
   dsimp only
   split
   ·exact cF hs _
   ·exact hs
 exact h l _ cD
theorem xe(n:Int)(A:List dh)(y:dh):cn (bh n (A++[y]))=if y.e.kind=3/\y.tx=n then be (cn (bh n A)) y.e.cell else cn (bh n A):=by
 rw[jh]
 by_cases ht:y.tx=n
 ·have e:bh n [y]=[y.e]:=by simp[bh,ht]
  rw[e,fC]
  unfold eg
  by_cases h2:y.e.kind=3<;>simp[ht,h2]
 ·have e:bh n [y]=[]:=by simp[bh,ht]
  rw[e,List.append_nil,if_neg (fun h=>ht h.2)]
theorem xI(n:Int)(A:List dh)(y:dh):aV (bh n (A++[y]))=if y.e.kind=2/\y.tx=n/\y.e.own=false then be (aV (bh n A)) y.e.cell else aV (bh n A):=by
 rw[jh]
 by_cases ht:y.tx=n
 ·have e:bh n [y]=[y.e]:=by simp[bh,ht]
  rw[e,eP]
  unfold jK
  by_cases h2:y.e.kind=2<;>cases h3:y.e.own<;>simp[ht,h2]
 ·have e:bh n [y]=[]:=by simp[bh,ht]
  rw[e,List.append_nil,if_neg (fun h=>ht h.2.1)]
end
section
theorem CT(xs:List Int)(v:Int):bz xs++[.int .i64 v]=bz (xs++[v]):=by simp[bz]
theorem pG(w:World):ah w [] [] w:=oi (Cs:=[]) (fun _ h=>nomatch h) List.nodup_nil
theorem ah.sigAt{w0 w:World}{X:List Nat}{Cs:List aw}{x:Nat}{cs:Array Value}(h:ah w0 X (ag x (.cells cs 42 (0,0))::Cs) w)(hl:cs.size=8):ck w x cs:=⟨h.h0,hl⟩
theorem ah.sigAt1{w0 w:World}{X:List Nat}{Cs:List aw}{a:aw}{x:Nat}{cs:Array Value}(h:ah w0 X (a::ag x (.cells cs 42 (0,0))::Cs) w)(hl:cs.size=8):ck w x cs:=⟨h.h1,hl⟩
theorem ah.sigAt2{w0 w:World}{X:List Nat}{Cs:List aw}{a b:aw}{x:Nat}{cs:Array Value}(h:ah w0 X (a::b::ag x (.cells cs 42 (0,0))::Cs) w)(hl:cs.size=8):ck w x cs:=⟨h.h2,hl⟩
theorem ah.sigAt3{w0 w:World}{X:List Nat}{Cs:List aw}{a b c:aw}{x:Nat}{cs:Array Value}(h:ah w0 X (a::b::c::ag x (.cells cs 42 (0,0))::Cs) w)(hl:cs.size=8):ck w x cs:=⟨h.h3,hl⟩
theorem ah.setSigRow{w0 w:World}{X:List Nat}{Cs:List aw}{x:Nat}{cs:Array Value}{t:TypeId}(h:ah w0 X (ag x (.cells cs t (0,0))::Cs) w)(cs':Array Value):ah w0 X (ag x (.cells cs' t (0,0))::Cs) (w.setRow x cs') :=
 h.chg ⟨rfl,rfl,rfl,by simp,fun k _ hn=>setRow_other _ _ _ _ (by simpa using hn)⟩ (setRow_heap _ _ _ _ _ _ h.h0)
attribute [local go_sem ↓] jJ iL
attribute [local go_sem] iN gI
theorem qs(a b:List Int)(ha:aU a)(hb:aU b)(w:World):Calls Tryz.prog 11 #[dR a,dR b] w (dd (dR (eN a b 512)) w):=by
 have HA:=kH (fun k (hk:k<512) w=>eZ a k ha hk w)
 have HB:=kH (fun k (hk:k<512) w=>eZ b k hb hk w)
 have HP:=kH (fun k (hk:k<512) w=>jE (eN a b k) k (gJ _ k (by omega)) hk w)
 have HN:=kH (fun k=>lf (fun k=>hasB a k||hasB b k) k)
 have HC:=kH (fun k (hk:k<=512)=>dp (gJ (fun k=>hasB a k||hasB b k) k hk).1)
 have hca:=dp ha.1
 have hcb:=dp hb.1
 have hcz:fR #[.int .u64 0,.int .u64 0,.int .u64 0,.int .u64 0,.int .u64 0,.int .u64 0,.int .u64 0,.int .u64 0]:=by rw[<-fE];exact dp cD.1
 clear ha hb
 unfold dR at *
 obtain⟨A,hA⟩:∃ A,bH a=A:=⟨_,rfl⟩
 obtain⟨B,hB⟩:∃ B,bH b=B:=⟨_,rfl⟩
 rw[hA]at hca HA ⊢
 rw[hB]at hcb HB ⊢
 clear hA hB
 obtain⟨R,hR⟩:∃ R:Array Value,bH (eN a b 512)=R:=⟨_,rfl⟩
 have HR:=kH hR
 rw[hR]
 clear hR
 go_enter Tryz.func11,Tryz.ntmps11
 have hS0:=((((pG w).new (.cells A 42 (0,0))).new (.cells B 42 (0,0))).new (.cells #[.int .u64 0,.int .u64 0,.int .u64 0,.int .u64 0,.int .u64 0,.int .u64 0,.int .u64 0,.int .u64 0] 42 (0,0))).new (.cells #[.int .u64 0,.int .u64 0,.int .u64 0,.int .u64 0,.int .u64 0,.int .u64 0,.int .u64 0,.int .u64 0] 42 (0,0))
 simp only[World.size_alloc]at hS0
 have j0:=hS0.sigAt rfl
 go_upto_region 2 with(fail)
 have hS1:Hid (ah w [] [ag (w.heap.size+1+1+1) (.cells (bH (eN a b 0)) 42 (0,0)),ag (w.heap.size+1+1) (.cells #[.int .u64 0,.int .u64 0,.int .u64 0,.int .u64 0,.int .u64 0,.int .u64 0,.int .u64 0,.int .u64 0] 42 (0,0)),ag (w.heap.size+1) (.cells B 42 (0,0)),ag w.heap.size (.cells A 42 (0,0))] _):=hS0.setSigRow #[.int .u64 0,.int .u64 0,.int .u64 0,.int .u64 0,.int .u64 0,.int .u64 0,.int .u64 0,.int .u64 0]
 generalize World.setRow _ _ _=W1 at *
 clear hS0 j0
 go_wp2
 go_loopg[6] 513 (fun n v6 wr=>∃ k:Nat,k<=512/\v6=.int .i64 k/\n+k=513/\ah w [] [ag (w.heap.size+1+1+1) (.cells (bH (eN a b k)) 42 (0,0)),ag (w.heap.size+1+1) (.cells #[.int .u64 0,.int .u64 0,.int .u64 0,.int .u64 0,.int .u64 0,.int .u64 0,.int .u64 0,.int .u64 0] 42 (0,0)),ag (w.heap.size+1) (.cells B 42 (0,0)),ag w.heap.size (.cells A 42 (0,0))] wr)
 case atStart=>exact⟨0,Nat.zero_le _,rfl,rfl,hS1.out⟩
 case round =>
  obtain⟨k,hk,rfl,hn,hS⟩:=hrel
  have HM:=kH hn
  have HS:=kH hS
  have hkI:(k:Int)<=512:=by omega
  have hcu:=HC.out k hk
  clear hn hS1
  by_cases hlt:k<512
  ·have hltI:(k:Int)<512:=by omega
   have HK:=kH hlt
   have HAk:=kH (fun w=>HA.out k HK.out w)
   have HBk:=kH (fun w=>HB.out k HK.out w)
   have HPk:=kH (fun w=>HP.out k HK.out w)
   have HNk:Hid (eN a b (k+1)=if(hasB a k||hasB b k)=true then cT (eN a b k) k else eN a b k):=HN.out k
   have hcu2:fR (bH (eN a b (k+1))):=HC.out (k+1) hlt
   have HCU2:=kH hcu2
   clear HA HB HP HN hcu2
   obtain⟨x,hx⟩:∃ x,hasB a k=x:=⟨_,rfl⟩
   obtain⟨y,hy⟩:∃ y,hasB b k=y:=⟨_,rfl⟩
   rw[hx]at HAk HNk
   rw[hy]at HBk HNk
   change fR (bH (eN a b k))at hcu
   have i2:=hS.sigAt3 hca.len
   have i3:=hS.sigAt2 hcb.len
   have i5:=hS.sigAt hcu.len
   clear hx hy hlt hS
   obtain⟨U,hU⟩:∃ U,bH (eN a b k)=U:=⟨_,rfl⟩
   obtain⟨U2,hU2⟩:∃ U2,bH (eN a b (k+1))=U2:=⟨_,rfl⟩
   have HU:=kH hU
   have HU2:=kH hU2
   rw[hU]at hcu i5 HPk HS
   rw[hU2]at HCU2
   clear hU hU2
   go_wp2_with fail
   refine(HAk.out _).mono ?_
   rintro e2 w2 ⟨rfl,hb2⟩
   have hS2:=HS.out.below hb2
   have HS2:=kH hS2
   have i2:=hS2.sigAt3 hca.len
   have i3:=hS2.sigAt2 hcb.len
   have i5:=hS2.sigAt hcu.len
   clear hb2 hS2 HS
   go_wp2_with fail
   refine(HBk.out _).mono ?_
   rintro e3 w3 ⟨rfl,hb3⟩
   have hS3:=HS2.out.below hb3
   have HS3:=kH hS3
   have i5:=hS3.sigAt hcu.len
   clear hb3 hS3 HS2 HAk HBk
   cases x<;>cases y
   ·have HE:Hid (U2=U):=by show _=_;rw[<-HU2.out,<-HU.out,HNk.out,if_neg (by decide)]
    clear HPk i2 i3
    go_wp2
    go_roundg (512-k)
    case measure=>have:=HM.out;omega
    case rel=>exact⟨k+1,by have:=HK.out;omega,by go_num,by have:=HM.out;omega,by rw[HU2.out,HE.out];exact HS3.out⟩
   ·have HE:Hid (bH (cT (eN a b k) k)=U2):=by show _=_;rw[<-HU2.out,HNk.out,if_pos (by decide)]
    rw[HE.out]at HPk
    clear i2 i3
    go_wp2_with fail
    refine(HPk.out _).mono ?_
    rintro e4 w4 ⟨rfl,hb4⟩
    have hS4:=HS3.out.below hb4
    have i5:=hS4.sigAt hcu.len
    have HS5:=kH (hS4.setSigRow U2)
    have hcu2:=HCU2.out
    clear hb4 hS4 HPk
    go_wp2
    go_roundg (512-k)
    case measure=>have:=HM.out;omega
    case rel=>exact⟨k+1,by have:=HK.out;omega,by go_num,by have:=HM.out;omega,by rw[HU2.out];exact HS5.out⟩
   ·have HE:Hid (bH (cT (eN a b k) k)=U2):=by show _=_;rw[<-HU2.out,HNk.out,if_pos (by decide)]
    rw[HE.out]at HPk
    clear i2 i3
    go_wp2_with fail
    refine(HPk.out _).mono ?_
    rintro e4 w4 ⟨rfl,hb4⟩
    have hS4:=HS3.out.below hb4
    have i5:=hS4.sigAt hcu.len
    have HS5:=kH (hS4.setSigRow U2)
    have hcu2:=HCU2.out
    clear hb4 hS4 HPk
    go_wp2
    go_roundg (512-k)
    case measure=>have:=HM.out;omega
    case rel=>exact⟨k+1,by have:=HK.out;omega,by go_num,by have:=HM.out;omega,by rw[HU2.out];exact HS5.out⟩
   ·have HE:Hid (bH (cT (eN a b k) k)=U2):=by show _=_;rw[<-HU2.out,HNk.out,if_pos (by decide)]
    rw[HE.out]at HPk
    clear i2 i3
    go_wp2_with fail
    refine(HPk.out _).mono ?_
    rintro e4 w4 ⟨rfl,hb4⟩
    have hS4:=HS3.out.below hb4
    have i5:=hS4.sigAt hcu.len
    have HS5:=kH (hS4.setSigRow U2)
    have hcu2:=HCU2.out
    clear hb4 hS4 HPk
    go_wp2
    go_roundg (512-k)
    case measure=>have:=HM.out;omega
    case rel=>exact⟨k+1,by have:=HK.out;omega,by go_num,by have:=HM.out;omega,by rw[HU2.out];exact HS5.out⟩
  ·obtain rfl:k=512:=by omega
   have j4:ck wr (w.heap.size+1+1) #[.int .u64 0,.int .u64 0,.int .u64 0,.int .u64 0,.int .u64 0,.int .u64 0,.int .u64 0,.int .u64 0]:=hS.sigAt1 rfl
   have hcu':fR R:=by rw[<-HR.out];exact hcu
   have j5:ck wr (w.heap.size+1+1+1) R:=by rw[<-HR.out];exact hS.sigAt hcu.len
   have hbel:=kH (below_setRow (B:=w.heap.size) hS.kept.below (show w.heap.size<=w.heap.size+1+1 by omega) R)
   clear hS hcu
   go_wp2
   exact bodyPost_ret (results_cell_row rfl _ _ _ _ _ _ _ rfl (setRow_heap _ _ _ _ _ _ j4.at_) Tryz.underlying42 rfl (by rw[fN,hcu'.len])) rfl ⟨rfl,hbel.out⟩
theorem rL(a b:List Int)(ha:aU a)(hb:aU b)(w:World):Calls Tryz.prog 25 #[dR a,dR b] w (dd (dR (fG a b 512)) w):=by
 have HA:=kH (fun k (hk:k<512) w=>eZ a k ha hk w)
 have HB:=kH (fun k (hk:k<512) w=>eZ b k hb hk w)
 have HP:=kH (fun k (hk:k<512) w=>jE (fG a b k) k (gJ _ k (by omega)) hk w)
 have HN:=kH (fun k=>lf (fun k=>hasB a k&&hasB b k) k)
 have HC:=kH (fun k (hk:k<=512)=>dp (gJ (fun k=>hasB a k&&hasB b k) k hk).1)
 have hca:=dp ha.1
 have hcb:=dp hb.1
 have hcz:fR #[.int .u64 0,.int .u64 0,.int .u64 0,.int .u64 0,.int .u64 0,.int .u64 0,.int .u64 0,.int .u64 0]:=by rw[<-fE];exact dp cD.1
 clear ha hb
 unfold dR at *
 obtain⟨A,hA⟩:∃ A,bH a=A:=⟨_,rfl⟩
 obtain⟨B,hB⟩:∃ B,bH b=B:=⟨_,rfl⟩
 rw[hA]at hca HA ⊢
 rw[hB]at hcb HB ⊢
 clear hA hB
 obtain⟨R,hR⟩:∃ R:Array Value,bH (fG a b 512)=R:=⟨_,rfl⟩
 have HR:=kH hR
 rw[hR]
 clear hR
 go_enter Tryz.func25,Tryz.ntmps25
 have hS0:=((((pG w).new (.cells A 42 (0,0))).new (.cells B 42 (0,0))).new (.cells #[.int .u64 0,.int .u64 0,.int .u64 0,.int .u64 0,.int .u64 0,.int .u64 0,.int .u64 0,.int .u64 0] 42 (0,0))).new (.cells #[.int .u64 0,.int .u64 0,.int .u64 0,.int .u64 0,.int .u64 0,.int .u64 0,.int .u64 0,.int .u64 0] 42 (0,0))
 simp only[World.size_alloc]at hS0
 have j0:=hS0.sigAt rfl
 go_upto_region 2 with(fail)
 have hS1:Hid (ah w [] [ag (w.heap.size+1+1+1) (.cells (bH (fG a b 0)) 42 (0,0)),ag (w.heap.size+1+1) (.cells #[.int .u64 0,.int .u64 0,.int .u64 0,.int .u64 0,.int .u64 0,.int .u64 0,.int .u64 0,.int .u64 0] 42 (0,0)),ag (w.heap.size+1) (.cells B 42 (0,0)),ag w.heap.size (.cells A 42 (0,0))] _):=hS0.setSigRow #[.int .u64 0,.int .u64 0,.int .u64 0,.int .u64 0,.int .u64 0,.int .u64 0,.int .u64 0,.int .u64 0]
 generalize World.setRow _ _ _=W1 at *
 clear hS0 j0
 go_wp2
 go_loopg[6] 513 (fun n v6 wr=>∃ k:Nat,k<=512/\v6=.int .i64 k/\n+k=513/\ah w [] [ag (w.heap.size+1+1+1) (.cells (bH (fG a b k)) 42 (0,0)),ag (w.heap.size+1+1) (.cells #[.int .u64 0,.int .u64 0,.int .u64 0,.int .u64 0,.int .u64 0,.int .u64 0,.int .u64 0,.int .u64 0] 42 (0,0)),ag (w.heap.size+1) (.cells B 42 (0,0)),ag w.heap.size (.cells A 42 (0,0))] wr)
 case atStart=>exact⟨0,Nat.zero_le _,rfl,rfl,hS1.out⟩
 case round =>
  obtain⟨k,hk,rfl,hn,hS⟩:=hrel
  have HM:=kH hn
  have HS:=kH hS
  have hkI:(k:Int)<=512:=by omega
  have hcu:=HC.out k hk
  clear hn hS1
  by_cases hlt:k<512
  ·have hltI:(k:Int)<512:=by omega
   have HK:=kH hlt
   have HAk:=kH (fun w=>HA.out k HK.out w)
   have HBk:=kH (fun w=>HB.out k HK.out w)
   have HPk:=kH (fun w=>HP.out k HK.out w)
   have HNk:Hid (fG a b (k+1)=if(hasB a k&&hasB b k)=true then cT (fG a b k) k else fG a b k):=HN.out k
   have hcu2:fR (bH (fG a b (k+1))):=HC.out (k+1) hlt
   have HCU2:=kH hcu2
   clear HA HB HP HN hcu2
   obtain⟨x,hx⟩:∃ x,hasB a k=x:=⟨_,rfl⟩
   obtain⟨y,hy⟩:∃ y,hasB b k=y:=⟨_,rfl⟩
   rw[hx]at HAk HNk
   rw[hy]at HBk HNk
   change fR (bH (fG a b k))at hcu
   have i2:=hS.sigAt3 hca.len
   have i3:=hS.sigAt2 hcb.len
   have i5:=hS.sigAt hcu.len
   clear hx hy hlt hS
   obtain⟨U,hU⟩:∃ U,bH (fG a b k)=U:=⟨_,rfl⟩
   obtain⟨U2,hU2⟩:∃ U2,bH (fG a b (k+1))=U2:=⟨_,rfl⟩
   have HU:=kH hU
   have HU2:=kH hU2
   rw[hU]at hcu i5 HPk HS
   rw[hU2]at HCU2
   clear hU hU2
   go_wp2_with fail
   refine(HAk.out _).mono ?_
   rintro e2 w2 ⟨rfl,hb2⟩
   have hS2:=HS.out.below hb2
   have HS2:=kH hS2
   have i2:=hS2.sigAt3 hca.len
   have i3:=hS2.sigAt2 hcb.len
   have i5:=hS2.sigAt hcu.len
   clear hb2 hS2 HS
   go_wp2_with fail
   refine(HBk.out _).mono ?_
   rintro e3 w3 ⟨rfl,hb3⟩
   have hS3:=HS2.out.below hb3
   have HS3:=kH hS3
   have i5:=hS3.sigAt hcu.len
   clear hb3 hS3 HS2 HAk HBk
   cases x<;>cases y
   ·have HE:Hid (U2=U):=by show _=_;rw[<-HU2.out,<-HU.out,HNk.out,if_neg (by decide)]
    clear HPk i2 i3
    go_wp2
    go_roundg (512-k)
    case measure=>have:=HM.out;omega
    case rel=>exact⟨k+1,by have:=HK.out;omega,by go_num,by have:=HM.out;omega,by rw[HU2.out,HE.out];exact HS3.out⟩
   ·have HE:Hid (U2=U):=by show _=_;rw[<-HU2.out,<-HU.out,HNk.out,if_neg (by decide)]
    clear HPk i2 i3
    go_wp2
    go_roundg (512-k)
    case measure=>have:=HM.out;omega
    case rel=>exact⟨k+1,by have:=HK.out;omega,by go_num,by have:=HM.out;omega,by rw[HU2.out,HE.out];exact HS3.out⟩
   ·have HE:Hid (U2=U):=by show _=_;rw[<-HU2.out,<-HU.out,HNk.out,if_neg (by decide)]
    clear HPk i2 i3
    go_wp2
    go_roundg (512-k)
    case measure=>have:=HM.out;omega
    case rel=>exact⟨k+1,by have:=HK.out;omega,by go_num,by have:=HM.out;omega,by rw[HU2.out,HE.out];exact HS3.out⟩
   ·have HE:Hid (bH (cT (fG a b k) k)=U2):=by show _=_;rw[<-HU2.out,HNk.out,if_pos (by decide)]
    rw[HE.out]at HPk
    clear i2 i3
    go_wp2_with fail
    refine(HPk.out _).mono ?_
    rintro e4 w4 ⟨rfl,hb4⟩
    have hS4:=HS3.out.below hb4
    have i5:=hS4.sigAt hcu.len
    have HS5:=kH (hS4.setSigRow U2)
    have hcu2:=HCU2.out
    clear hb4 hS4 HPk
    go_wp2
    go_roundg (512-k)
    case measure=>have:=HM.out;omega
    case rel=>exact⟨k+1,by have:=HK.out;omega,by go_num,by have:=HM.out;omega,by rw[HU2.out];exact HS5.out⟩
  ·obtain rfl:k=512:=by omega
   have j4:ck wr (w.heap.size+1+1) #[.int .u64 0,.int .u64 0,.int .u64 0,.int .u64 0,.int .u64 0,.int .u64 0,.int .u64 0,.int .u64 0]:=hS.sigAt1 rfl
   have hcu':fR R:=by rw[<-HR.out];exact hcu
   have j5:ck wr (w.heap.size+1+1+1) R:=by rw[<-HR.out];exact hS.sigAt hcu.len
   have hbel:=kH (below_setRow (B:=w.heap.size) hS.kept.below (show w.heap.size<=w.heap.size+1+1 by omega) R)
   clear hS hcu
   go_wp2
   exact bodyPost_ret (results_cell_row rfl _ _ _ _ _ _ _ rfl (setRow_heap _ _ _ _ _ _ j4.at_) Tryz.underlying42 rfl (by rw[fN,hcu'.len])) rfl ⟨rfl,hbel.out⟩
def iz(s:List Int)(w:World)(e:Ending)(w':World):Prop:=∃ v,e=.returned v/\ah w [] [aN 3 1 v (dt s 512).length (bz (dt s 512))] w'
theorem iX(s:List Int)(hs:aU s)(w:World):Calls Tryz.prog 12 #[dR s] w (iz s w):=by
 have HA:=kH (fun k (hk:k<512) w=>eZ s k hs hk w)
 have HN:=kH (fun k=>lF s k)
 have HL:=kH (fun k=>nD s k)
 have hca:=dp hs.1
 have HQ:Hid (∀ v w',ah w [] [aN 3 1 v (dt s 512).length (bz (dt s 512))] w'->iz s w (.returned v) w'):=fun v w' h=>⟨v,rfl,h⟩
 generalize iz s w=Q at *
 clear hs
 unfold dR at *
 obtain⟨A,hA⟩:∃ A,bH s=A:=⟨_,rfl⟩
 rw[hA]at hca HA ⊢
 clear hA
 go_enter Tryz.func12,Tryz.ntmps12
 go_upto_region 1 with(fail)
 have HS0:Hid (ah w [] [aN 3 1 (.slice none 0 0) (dt s 0).length (bz (dt s 0)),ag w.heap.size (.cells A 42 (0,0))] _):=((pG w).new (.cells A 42 (0,0))).nilRow 3 1
 generalize w.alloc _=W1 at *
 go_wp2
 go_loopg[3,4] 513 (fun n v3 v4 wr=>∃ k:Nat,k<=512/\v4=.int .i64 k/\n+k=513/\ah w [] [aN 3 1 v3 (dt s k).length (bz (dt s k)),ag w.heap.size (.cells A 42 (0,0))] wr)
 case atStart=>exact⟨0,Nat.zero_le _,rfl,rfl,HS0.out⟩
 case round =>
  obtain⟨k,hk,rfl,hn,hS⟩:=hrel
  have HM:=kH hn
  have HS:=kH hS
  have hkI:(k:Int)<=512:=by omega
  clear hn HS0
  by_cases hlt:k<512
  ·have hltI:(k:Int)<512:=by omega
   have HK:=kH hlt
   have HAk:=kH (fun w=>HA.out k HK.out w)
   have HNk:=kH (HN.out k)
   have HLk:Hid ((dt s k).length<=512):=by
    have:=HL.out k
    show(dt s k).length<=512
    omega
   clear HA HN HL hlt
   obtain⟨x,hx⟩:∃ x,hasB s k=x:=⟨_,rfl⟩
   rw[hx]at HAk HNk
   clear hx
   have i1:=hS.sigAt1 hca.len
   obtain⟨Y,hY⟩:∃ Y,dt s k=Y:=⟨_,rfl⟩
   rw[hY]at HS HNk HLk hS
   clear hY
   have hrow:aD wr 3 1 _ Y.length (bz Y):=hS.h0
   obtain⟨ca,cc,hv,hncc,hccm⟩:=hrow.slice
   subst hv
   obtain⟨nc,hnc⟩:∃ n,Y.length=n:=⟨_,rfl⟩
   have HNC:=kH hnc
   rw[hnc]at HLk HS hncc ⊢
   have hnc9:nc<=512:=HLk.out
   have hncI:(nc:Int)<=(cc:Int):=by omega
   clear hS hrow hccm hnc
   go_wp2_with fail
   refine(HAk.out _).mono ?_
   rintro e2 w2 ⟨rfl,hb2⟩
   have HS2:=kH (HS.out.below hb2)
   clear hb2 HS HAk i1
   cases x with
   | false =>
    have HE:Hid (dt s (k+1)=Y):=by show _=_;rw[HNk.out,if_neg (by decide)]
    go_wp2
    go_roundg (512-k)
    case measure=>have:=HM.out;omega
    case rel=>exact⟨k+1,by have:=HK.out;omega,by go_num,by have:=HM.out;omega,by rw[HE.out,HNC.out];exact HS2.out⟩
   | true =>
    have HE:Hid (dt s (k+1)=Y++[(k:Int)]):=by show _=_;rw[HNk.out,if_pos rfl]
    have HA:=kH (CT Y (k:Int))
    obtain⟨i0,yi,yz0,yz1,yz2⟩:=info_parts tR
    go_wp2_with(at_builtin;refine wpList_append_lies _ rfl (.tmp 14) (.tmp 16) 29 rfl 0 3 i0 _ 1 8 Tryz.underlying29 yi yz0 yz1 yz2 rfl (by decide) (.slice ca nc cc) nc (bz Y) rfl (World.ownsRow.alloc HS2.out.h0 _) ⟨w2.heap.size,0,none⟩ 1 1 [.int .i64 k] rfl rfl (fun j u hu=>cG (ar rfl) j u hu) (by simp[Value.oneCell']) (by decide) (by unfold maxLen;omega) (by omega) (Nat.zero_le _) _ rfl ?_;intro g5 cap5 w5 hown5 hgrow5 hat5 hgl5;have S5:=((HS2.out.alloc _).append hgrow5 hown5 hat5 (Nat.le_refl _));have HS7:=kH S5;clear S5 hown5 hgrow5 hat5)
    go_roundg (512-k)
    case measure=>have:=HM.out;omega
    case rel=>exact⟨k+1,by have:=HK.out;omega,by go_num,by have:=HM.out;omega,by rw[HE.out,<-HA.out,show(Y++[(k:Int)]).length=nc+1 by rw[List.length_append,HNC.out];rfl];exact HS7.out⟩
  ·obtain rfl:k=512:=by omega
   have HR:=kH (HQ.out _ _ (hS.sw.drop))
   clear hS HS HQ HA HN HL
   go_wp2
   exact HR.out
theorem qu(s:List Int)(hs:aU s)(w:World):Calls Tryz.prog 26 #[dR s] w (dd (.bool (decide ((dt s 512).length=0))) w):=by
 have HB:=kH (fun w=>iX s hs w)
 have HL:=kH (nD s 512)
 have hca:=dp hs.1
 unfold iz at HB
 clear hs
 unfold dR at *
 generalize bH s=A at *
 generalize dt s 512=Y at *
 obtain⟨r,hr⟩:∃ r,decide (Y.length=0)=r:=⟨_,rfl⟩
 rw[hr]
 have HR:=kH hr
 clear hr
 have i1:ck (w.alloc (.cells A 42 (0,0))) w.heap.size A:=⟨ar rfl,hca.len⟩
 go_enter Tryz.func26,Tryz.ntmps26
 go_wp2_with fail
 refine(HB.out _).mono ?_
 rintro e2 w2 ⟨v,rfl,hS⟩
 have hbel:=kH ((ai w (.cells A 42 (0,0))).trans (hS.kept.below.mono (by simp)))
 have hrow:aD w2 3 1 v Y.length (bz Y):=hS.h0
 obtain⟨ca,cc,rfl,hncc,hccm⟩:=hrow.slice
 have hl:=HL.out
 generalize Y.length=n at *
 clear hS hrow HB HL i1
 by_cases h0:n=0
 ·subst h0
  have HD:Hid (r=true):=HR.out.symm.trans (by decide)
  go_wp2
  go_ret
  exact⟨by rw[HD.out];rfl,hbel.out⟩
 ·have HD:Hid (r=false):=HR.out.symm.trans (decide_eq_false h0)
  have h0':((n:Int) == 0)=false:=by simp;omega
  clear h0 HR
  go_wp2
  go_ret
  exact⟨by rw[HD.out];rfl,hbel.out⟩
theorem qt(a b:List Int)(ha:aU a)(hb:aU b)(w:World):Calls Tryz.prog 10 #[dR a,dR b] w (dd (.bool (mU a b)) w):=by
 have HM:=kH (fun w=>rL a b ha hb w)
 have hm:aU (fG a b 512):=gJ _ _ (Nat.le_refl _)
 have HE:=kH (fun w=>qu (fG a b 512) hm w)
 have hca:=dp ha.1
 have hcb:=dp hb.1
 have hcm:=dp hm.1
 unfold mU
 generalize dt (fG a b 512) 512=Y at *
 obtain⟨r,hr⟩:∃ r,decide (Y.length=0)=r:=⟨_,rfl⟩
 have HR:Hid (decide (Y.length≠0) = !r):=by show _=_;rw[<-hr];simp
 rw[hr]at HE
 rw[HR.out]
 clear hr ha hb hm
 unfold dR at *
 generalize bH a=A at *
 generalize bH b=B at *
 generalize bH (fG a b 512)=M at *
 have hS0:=((pG w).new (.cells A 42 (0,0))).new (.cells B 42 (0,0))
 have i2:=hS0.sigAt1 hca.len
 have i3:=hS0.sigAt hcb.len
 simp only[World.size_alloc]at i3
 have HS0:=kH hS0.kept.below
 clear hS0
 go_enter Tryz.func10,Tryz.ntmps10
 go_wp2_with fail
 refine(HM.out _).mono ?_
 rintro e2 w2 ⟨rfl,hb2⟩
 have HS2:=kH (lG hb2)
 have j5:ck (w2.alloc (.cells #[.int .u64 0,.int .u64 0,.int .u64 0,.int .u64 0,.int .u64 0,.int .u64 0,.int .u64 0,.int .u64 0] 42 (0,0))) w2.heap.size #[.int .u64 0,.int .u64 0,.int .u64 0,.int .u64 0,.int .u64 0,.int .u64 0,.int .u64 0,.int .u64 0]:=⟨ar rfl,rfl⟩
 have j6:ck ((w2.alloc (.cells #[.int .u64 0,.int .u64 0,.int .u64 0,.int .u64 0,.int .u64 0,.int .u64 0,.int .u64 0,.int .u64 0] 42 (0,0))).setRow w2.heap.size M) w2.heap.size M:=⟨setRow_heap _ _ _ _ _ _ j5.at_,hcm.len⟩
 have HB6:Hid (Below w.heap.size w ((w2.alloc (.cells #[.int .u64 0,.int .u64 0,.int .u64 0,.int .u64 0,.int .u64 0,.int .u64 0,.int .u64 0,.int .u64 0] 42 (0,0))).setRow w2.heap.size M)):=below_setRow (bA HS2.out _) HS2.out.size _
 clear HM hb2 i2 i3
 go_wp2_with fail
 refine(HE.out _).mono ?_
 rintro e3 w3 ⟨rfl,hb3⟩
 have HB:=kH (HB6.out.trans (hb3.mono HB6.out.size))
 clear hb3 HE j5 j6
 cases r
 all_goals
  go_wp2
  go_ret
  exact⟨rfl,HB.out⟩
end
section
variable {w0:World}{X:List Nat}{Cs:List aw}{w:World}
theorem tN{w:World}{g i:Nat}{y:dh}(h:∀ (j:Nat) (u:Value),(fO y)[j]?=some u->w.cell? ⟨g,i*19+j,none⟩=some u)(hs:y.e.sig.length=8):eX w g (i*19+10) (dG y.e.sig) :=
 ⟨fun j v hv=>by
  have hj:=(List.getElem?_eq_some_iff.1 hv).1
  have hj8:j<8:=by simpa[dG,hs]using hj
  have e:=h (10+j) _ (tU hj8)
  unfold dG at hv
  rw[List.getElem?_map,List.getElem?_eq_getElem (by omega)]at hv
  have e2:v=.int .u64 (y.e.sig.getD j 0):=by
   rw[List.getD_eq_getElem?_getD,List.getElem?_eq_getElem (by omega)]
   simpa using hv.symm
  subst e2
  rw[Nat.add_assoc]
  exact e,by simp[dG,hs]⟩
def fh(P:List (List Int)):List Value:=P.flatMap dG
theorem At(P:List (List Int))(s:List Int):fh P++dG s=fh (P++[s]):=by simp[fh]
theorem uY:∀ (P:List (List Int)),(∀ s∈P,s.length=8)->∀ (k:Nat) (s:List Int) (j:Nat) (v:Value),P[k]?=some s->(dG s)[j]?=some v->(fh P)[k*8+j]?=some v
 | [],_,k,s,j,v,h,_=>by simp at h
 | x::P,h8,0,s,j,v,h,hv=>by
  simp only[gZ,Option.some.injEq]at h
  subst h
  have hj:=(List.getElem?_eq_some_iff.1 hv).1
  show(dG x++fh P)[0*8+j]?=_
  rw[Nat.zero_mul,Nat.zero_add,List.getElem?_append_left hj]
  exact hv
 | x::P,h8,k+1,s,j,v,h,hv=>by
  have ih:=uY P (fun s hs=>h8 s (List.mem_cons_of_mem _ hs)) k s j v (by simpa using h) hv
  have hl:(dG x).length=8:=by simp[dG,h8 x List.mem_cons_self]
  show(dG x++fh P)[(k+1)*8+j]?=_
  rw[List.getElem?_append_right (by rw[hl];omega),hl,show(k+1)*8+j-8=k*8+j by omega]
  exact ih
theorem mid_row{w:World}{a:Option Addr}{n cap:Nat}{P:List (List Int)}(h:aD w 42 8 (.slice a n cap) P.length (fh P))(hP:∀ s∈P,s.length=8)(hn:P.length=n)(h0:0<n) :
  ∃ g,a=some ⟨g,0,none⟩/\n<=cap/\g<w.heap.size/\∀ (k:Nat) (s:List Int),P[k]?=some s->eX w g (k*8) (dG s):=by
 rcases h.parts with⟨-,h2,-⟩|⟨g,cap',hv,hnc,hcm,hg,hcell⟩
 ·omega
 ·injection hv with h1 h2 h3
  exact⟨g,h1,by omega,hg,fun k s hs=>⟨fun j v hv=>hcell _ v (uY P hP k s j v hs hv),by simp[dG,hP s (List.mem_of_getElem? hs)]⟩⟩
theorem CW:(Tryz.prog.info? 42).map (fun i=>(i.zero,i.size,i.bytes))=some (some (.agg #[.int .u64 0,.int .u64 0,.int .u64 0,.int .u64 0,.int .u64 0,.int .u64 0,.int .u64 0,.int .u64 0]),8,64):=by kernel_rfl
class nM(A B:Array Value):Prop where
 eq:∀ w,(Op.equalIn 10000 42 (.agg A) (.agg B)).run Tryz.prog w=.ok true w
theorem tV{w:World}{A B:Array Value} [h:nM A B]:(Op.equalIn 10000 42 (.agg A) (.agg B)).run Tryz.prog w=.ok true w:=h.eq w
theorem tr{s:List Int}(h:s.length=8):nM (bH s) (bH s):=⟨fun w=>by
 obtain⟨a,b,c,d,e,f,g,i,rfl⟩:=lT h
 have:=lN w a b c d e f g i a b c d e f g i
 rw[show eq8 [a,b,c,d,e,f,g,i] [a,b,c,d,e,f,g,i]=true from decide_eq_true rfl]at this
 exact this⟩
theorem crs_at{c:cN}{H:List dh}(hH:dB c H){i:Nat}{x:dh}(h:H[i]?=some x):(x.e.kind=6->CrsF (H.take i) x)/\(x.e.kind=4->cn (bh x.tx (H.take i))=x.e.sig/\aU x.e.sig):=by
 obtain⟨e,-⟩:=uX h
 rw[e]at hH
 exact⟨fun h6=>crs_ok hH h6,fun h4=>crs_pub hH h4⟩
theorem tm{H:List dh}{k:Nat}{y:dh}(h:H[k]?=some y):H.take (k+1)=H.take k++[y]:=by
 rw[List.take_add_one,h]
 rfl
theorem Ar{c:cN}{H:List dh}(hH:dB c H)(i:Nat):∀ s∈bP (H.take i),aU s:=by
 have h:dB c (H.take i++H.drop i):=by rw[List.take_append_drop];exact hH
 exact zq h.left
end
end Go.Proofs.YtgfogfciobmmpaaGreatDoor
