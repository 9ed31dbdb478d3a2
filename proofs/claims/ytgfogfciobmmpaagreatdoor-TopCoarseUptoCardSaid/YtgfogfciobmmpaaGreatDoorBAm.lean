/- A part of the proof of a law of carouseltop: BakN Core Core2 Core3. -/
import Derived.Test.YtgfogfciobmmpaaGreatDoorBAk
import Derived.Test.YtgfogfciobmmpaaGreatDoorBAl
import Derived.StillTailTactics
import Derived.Deep.DeepCutAuto
import Derived.Great.BuildSlice
import Derived.Great.FillDense
set_option linter.unusedSimpArgs false
set_option linter.unusedVariables false
set_option maxRecDepth 100000
set_option maxHeartbeats 8000000
namespace Go.Proofs.YtgfogfciobmmpaaGreatDoor
open Go.RowKit
section
variable {w0:World}{X:List Nat}{Cs:List aw}{w:World}{x p L:Nat}{lv:Value}{F:List Nat}{m:au}{b:cR}
theorem infoWr:(Tryz.prog.info? 218).map (fun i=>(i.zero,i.size,i.bytes))=some (some (.agg #[.int .i64 0,.int .i64 0]),2,16):=by kernel_rfl
theorem xh(l:List (Int×Int)):∀ u∈cL l,u.oneCell'=true:=fun u hu=>by
 unfold cL at hu
 obtain⟨y,_,hy⟩:=List.mem_flatMap.1 hu
 simp at hy
 rcases hy with rfl|rfl<;>rfl
theorem xD(l:List (Int×Int))(k:Nat)(h:k<l.length):dZ (l.take (k+1))=be (dZ (l.take k)) (l.getD k (0,0)).1:=by
 rw[List.take_succ_eq_append_getElem h]
 unfold dZ
 rw[List.foldl_append]
 rw[List.getD_eq_getElem?_getD,List.getElem?_eq_getElem h]
 rfl
theorem vr(l:List (Int×Int))(k:Nat)(h:k<l.length):jI (l.take (k+1))=if jI (l.take k)<(l.getD k (0,0)).1 then(l.getD k (0,0)).1 else jI (l.take k):=by
 rw[List.take_succ_eq_append_getElem h]
 unfold jI
 rw[List.foldl_append]
 rw[List.getD_eq_getElem?_getD,List.getElem?_eq_getElem h]
 rfl
def cfgO(raw ring writes stamps:Int)(multi:Bool)(tries:Int)(rv:Value):Obj:=.cells #[.int .i64 raw,.int .i64 ring,.int .i64 writes,.int .i64 stamps,.bool multi,.int .i64 tries,rv] 24 (0,0)
def kb(ring:Int)(multi:Bool)(stamp:Int)(l:List (Int×Int))(k:Nat):cR:=⟨ring,multi,stamp,l,dZ (l.take k),jI (l.take k),l.length,0,0,0,false,7⟩
theorem yJ{l:List (Int×Int)}{sv:Value}{cfg:Obj}{r n g5 cap5:Nat}{w5:World}{ring stamp:Int}{multi:Bool}(hS:ah w0 X (gy sv l::Cs) w)(hn:l.length=n)(hg:((w.alloc cfg).drewN r).grownBy w5 (Value.slice none 0 0).ownBlock)
  (ho:w5.ownsRow 0 218 2 (.slice (some ⟨g5,0,none⟩) (0+n) cap5) (0+n) ([]++cL l)) (ha:(Value.slice none 0 0).ownBlock=some g5\/g5=((w.alloc cfg).drewN r).heap.size) :
  ∃ x lv,Value.pointer (some ⟨w5.heap.size,0,none⟩)=ptr x/\ah w0 X (ag x (dy x lv (kb ring multi stamp l 0))::gy lv l::ag w.heap.size cfg::gy sv l::Cs)
   (w5.alloc (.cells #[.int .i64 ring,.bool multi,.int .i64 stamp,.slice (some ⟨g5,0,none⟩) n cap5,.int .u64 0,.int .u64 0,.int .u64 0,.int .u64 0,.int .u64 0,.int .u64 0,.int .u64 0,.int .u64 0,.int .i64 0,.int .i64 n,.int .i64 0,.int .i64 0,.int .i64 0,.bool false,.nilFunc] 216 (0,0))):=by
 subst hn
 simp only[Nat.zero_add,List.nil_append]at ho
 have S2:=(((hS.new cfg).drewN r).nilRow 218 2).append hg ho ha (Nat.le_refl _)
 exact⟨_,_,rfl,S2.new _⟩
def sS(ring:Int)(multi:Bool)(stamp:Int)(l:List (Int×Int))(k:Nat):cR:={kb ring multi stamp l k with sig:=dZ (l.take (k+1))}
theorem ah.sigs{s:List Int}{x:Nat}{lv:Value}{b:cR}{W:World}(h:ah w0 X (ag x (dy x lv b)::Cs) W)(hs:b.sig=s)(h8:s.length=8) :
  ∃ a0 a1 a2 a3 a4 a5 a6 a7:Int,s=[a0,a1,a2,a3,a4,a5,a6,a7]/\W.cell? ⟨x,4,none⟩=some (.int .u64 a0)/\W.cell? ⟨x,5,none⟩=some (.int .u64 a1)/\W.cell? ⟨x,6,none⟩=some (.int .u64 a2)/\W.cell? ⟨x,7,none⟩=some (.int .u64 a3)/\W.cell? ⟨x,8,none⟩=some (.int .u64 a4)/\W.cell? ⟨x,9,none⟩=some (.int .u64 a5)/\W.cell? ⟨x,10,none⟩=some (.int .u64 a6)/\W.cell? ⟨x,11,none⟩=some (.int .u64 a7):=by
 obtain⟨a0,a1,a2,a3,a4,a5,a6,a7,e⟩:=lT h8
 have hc:=fun j=>h.cell j
 simp only[dA,hs,e]at hc
 exact⟨a0,a1,a2,a3,a4,a5,a6,a7,e,hc 4,hc 5,hc 6,hc 7,hc 8,hc 9,hc 10,hc 11⟩
theorem ah.sigs_set{x:Nat}{lv:Value}{b:cR}{W:World}(h:ah w0 X (ag x (dy x lv b)::Cs) W){s:List Int}(a0 a1 a2 a3 a4 a5 a6 a7:Int)(hs:s=[a0,a1,a2,a3,a4,a5,a6,a7]) :
  ah w0 X (ag x (dy x lv {b with sig:=s})::Cs) ((((((((W.setCell ⟨x,4,none⟩ (.int .u64 a0)).setCell ⟨x,5,none⟩ (.int .u64 a1)).setCell ⟨x,6,none⟩ (.int .u64 a2)).setCell ⟨x,7,none⟩ (.int .u64 a3)).setCell ⟨x,8,none⟩ (.int .u64 a4)).setCell ⟨x,9,none⟩ (.int .u64 a5)).setCell ⟨x,10,none⟩ (.int .u64 a6)).setCell ⟨x,11,none⟩ (.int .u64 a7)):=by
 subst hs
 have h8:=(((((((h.set 4 (.int .u64 a0)).set 5 (.int .u64 a1)).set 6 (.int .u64 a2)).set 7 (.int .u64 a3)).set 8 (.int .u64 a4)).set 9 (.int .u64 a5)).set 10 (.int .u64 a6)).set 11 (.int .u64 a7)
 have e:((((((((dA x lv b).setIfInBounds 4 (.int .u64 a0)).setIfInBounds 5 (.int .u64 a1)).setIfInBounds 6 (.int .u64 a2)).setIfInBounds 7 (.int .u64 a3)).setIfInBounds 8 (.int .u64 a4)).setIfInBounds 9 (.int .u64 a5)).setIfInBounds 10 (.int .u64 a6)).setIfInBounds 11 (.int .u64 a7)=dA x lv {b with sig:=[a0,a1,a2,a3,a4,a5,a6,a7]}:=by
  simp[dA]
 rw[e]at h8
 exact h8
theorem New_bak(l:List (Int×Int))(sv:Value)(hS:ah w0 X (gy sv l::Cs) w)(raw ring writes stamps:Int)(multi:Bool)(tries:Int)(ra:Option Addr)(rn rc:Nat)(stamp:Int)(h0:1<=ring/\ring<=16)(hs:1<=stamp/\stamp<=1099511627776)(hl:0<l.length/\l.length<=24)(hok:∀ y∈l,0<=y.1/\y.1<1024) :
  Calls Tryz.prog 95 #[rU raw ring writes stamps multi tries (.slice ra rn rc),.int .i64 stamp,sv] w (fun e w'=>∃ x lv,e=.returned (.tuple #[ptr x,.int .i64 0]) /\
   ah w0 X (ag x (dy x lv (cX ring multi stamp l))::gy lv l::gy sv l::Cs) w'):=by
 obtain⟨i0,yi,yz0,yz1,yz2⟩:=info_parts infoWr
 have hrow:aD w _ _ _ _ _:=hS.h0
 obtain⟨g,cap,rfl,hcap,hcm,hg,hrf,hcell,hfz⟩:=hrow.read hl.1
 obtain⟨n,hn⟩:∃ n,l.length=n:=⟨_,rfl⟩
 have HCELL:=kH hcell
 have hS2:=hS
 rw[hn]at hS2
 have HS:=kH hS2
 clear hS2
 have HN:=kH hn
 have HOK:=kH hok
 have HROW:=kH hrow
 obtain⟨h0a,h0b⟩:=h0
 obtain⟨hsa,hsb⟩:=hs
 obtain⟨hla,hlb⟩:=hl
 rw[hn]at hla hlb hcap
 unfold maxLen at hcm
 have HNW:Hid (∀ (r:Nat) (o:Obj) j u,(cL l)[j]?=some u->((w.alloc o).drewN r).cell? ((⟨g,0,none⟩:Addr).add j)=some u):=fun r o j u hu=>by
  have h:=HCELL.out j u hu
  have e:(⟨g,0,none⟩:Addr).add j=⟨g,j,none⟩:=by unfold Addr.add;split<;>simp_all
  rw[e]
  exact(World.cell?_of_block (show((w.alloc o).drewN r).heap[g]?=w.heap[g]? from heap_alloc_old w o hg)).trans h
 clear hS hn hok hcell hrow hrf hfz
 unfold rU
 have hnn:decide ((24:Int)<(n:Int))=false:=by simp;omega
 rw[HN.out]
 go_enter Tryz.func95,Tryz.ntmps95
 go_upto_region 3 with(fail)
 go_cut[8] (fun c8 wx=>∃ x lv,c8=ptr x/\ah w0 X (ag x (dy x lv (kb ring multi stamp l 0))::gy lv l::ag w.heap.size (cfgO raw ring writes stamps multi tries (.slice ra rn rc))::gy (.slice (some ⟨g,0,none⟩) n cap) l::Cs) wx)
 case first =>
  go_region_law(refine step_append_lies _ rfl (.const (.slice none 0 0)) (.tmp 37) 165 rfl 0 218 i0 _ 2 16 Tryz.underlying165 yi yz0 yz1 yz2 rfl (by decide) (.slice none 0 0) 0 [] rfl (World.ownsRow_nil _ _ _ _) ⟨g,0,none⟩ n cap (cL l) rfl (by rw[et,HN.out]) (HNW.out _ _) (xh l) (by omega) (by unfold maxLen;omega) (by omega) (Nat.zero_le _) _ rfl ?_;intro g5 cap5 w5 hown5 hgrow5 hat5 hgl5;have hcf5:w5.heap[w.heap.size]?=some _:=(hgrow5.block w.heap.size (by simp) (fun e=>nomatch e)).trans (ar (w:=w) (o:=.cells #[.int .i64 raw,.int .i64 ring,.int .i64 writes,.int .i64 stamps,.bool multi,.int .i64 tries,.slice ra rn rc] 24 (0,0)) rfl);have e1:=cell_of_row w5 w.heap.size 1 _ _ _ hcf5;have e4:=cell_of_row w5 w.heap.size 4 _ _ _ hcf5;simp only[gA,gZ,gS]at e1 e4;have HCF5:=kH hcf5;clear hcf5)
  all_goals
   go_wp2_with fail
   go_meet
   exact yJ HS.out HN.out hgrow5 hown5 hat5
 case rest =>
  obtain⟨x,lv,rfl,S⟩:=hcut
  have HS0:=kH S
  clear S
  unfold ptr
  go_wp2_with fail
  go_loopg[45] n (fun nn v45 wr=>∃ k:Nat,k<=n/\v45=.int .i64 k/\nn+k=n/\ah w0 X (ag x (dy x lv (kb ring multi stamp l k))::gy lv l::ag w.heap.size (cfgO raw ring writes stamps multi tries (.slice ra rn rc))::gy (.slice (some ⟨g,0,none⟩) n cap) l::Cs) wr)
  case atStart=>exact⟨0,Nat.zero_le _,by go_num,by omega,HS0.out⟩
  case round =>
   obtain⟨k,hk,rfl,hn,S⟩:=hrel
   have HNN:=kH hn
   have HSR:=kH S
   by_cases hkn:k<n
   ·have hrow:aD wr _ _ _ _ _:=S.h3
    have hkl:k<l.length:=by rw[HN.out];exact hkn
    obtain⟨hc0,hc1⟩:=kX l k hkl
    obtain⟨g',cap',hgg,-,-,hgl,-,hcell,-⟩:=hrow.read (by omega)
    have hg':g'=g:=by
     injection hgg with h1
     injection h1 with h1
     injection h1 with h1
     exact h1.symm
    subst hg'
    have d0:=hcell _ _ hc0
    have d1:=hcell _ _ hc1
    rw[Nat.mul_comm]at d0 d1
    have hmem:=HOK.out _ (show l.getD k (0,0)∈l by rw[List.getD_eq_getElem?_getD,List.getElem?_eq_getElem hkl];simp)
    have HT1:=kH (xD l k hkl)
    have HT2:=kH (vr l k hkl)
    generalize l.getD k (0,0)=cv at *
    obtain⟨cc,vv⟩:=cv
    simp only at d0 d1 hmem HT1 HT2
    obtain⟨hm0,hm1⟩:=hmem
    clear hn S hrow hkl hc0 hc1 hcell hgg
    go_upto_region 9 with(fail)
    have S1:=HSR.out.new (.cells #[.int .i64 cc,.int .i64 vv] 218 (0,0))
    have HS1:=kH S1
    have b0:=S1.cell 0
    simp only[gA,gZ]at b0
    obtain⟨r0,r1,r2,r3,r4,r5,r6,r7,hrs,l4,l5,l6,l7,l8,l9,l10,l11⟩:=S1.sw.sigs (s:=dZ (l.take k)) rfl (kr _).1
    have hsok:=kr (l.take k)
    have HW:=kH (mz _ cc hsok)
    have hnx:=(cF hsok cc).1
    rw[<-HT1.out]at HW hnx
    have hv:dR (dZ (l.take k))=.agg #[.int .u64 r0,.int .u64 r1,.int .u64 r2,.int .u64 r3,.int .u64 r4,.int .u64 r5,.int .u64 r6,.int .u64 r7]:=by rw[hrs];rfl
    rw[hv]at HW
    obtain⟨a0,a1,a2,a3,a4,a5,a6,a7,hva,hvv⟩:=pB hnx
    rw[hvv]at HW
    have HVA:=kH hva
    clear hsok hnx hv hva hvv hrs S1 d0 d1
    generalize hbk:wr.heap.size=bk at *
    generalize hW1:wr.alloc (.cells #[.int .i64 cc,.int .i64 vv] 218 (0,0))=W1 at *
    clear hW1 hbk
    go_cut[] (fun wx=>ah w0 X (ag bk (.cells #[.int .i64 cc,.int .i64 vv] 218 (0,0))::ag x (dy x lv (sS ring multi stamp l k))::gy lv l::ag w.heap.size (cfgO raw ring writes stamps multi tries (.slice ra rn rc))::gy (.slice (some ⟨g',0,none⟩) n cap) l::Cs) wx)
    case first =>
     go_region_law(go_simp;refine(HW.out _).mono ?_;rintro e2 w2 ⟨rfl,hb2⟩;have S2:=((HS1.out.drewN _).below hb2).sw;obtain⟨q0,q1,q2,q3,q4,q5,q6,q7,-,m4,m5,m6,m7,m8,m9,m10,m11⟩:=S2.sigs (s:=dZ (l.take k)) rfl (kr _).1;have n4:=S2.froz 4;have n5:=S2.froz 5;have n6:=S2.froz 6;have n7:=S2.froz 7;have n8:=S2.froz 8;have n9:=S2.froz 9;have n10:=S2.froz 10;have n11:=S2.froz 11;have HS2:=kH S2;clear S2 hb2)
     all_goals
      go_wp2_with fail
      go_meet
      exact(HS2.out.sigs_set a0 a1 a2 a3 a4 a5 a6 a7 HVA.out).sw
    case rest =>
     have HS3:=kH hcut.sw
     have e12:=hcut.sw.cell 12
     have f12:=hcut.sw.froz 12
     have b0':=hcut.cell 0
     simp only[dA,sS,kb,gA,gZ,gS]at e12 b0'
     have hbx:=hcut.ne01
     generalize hmk:jI (l.take k)=mk at *
     have HMK:=kH hmk
     clear hcut hmk b0 l4 l5 l6 l7 l8 l9 l10 l11
     by_cases hmc:mk<cc
     ·have HMC:=kH hmc
      go_wp2_with fail
      go_region
      all_goals
       go_wp2_with fail
       go_roundg (n-(k+1))
       case measure=>have:=HNN.out;omega
       case rel =>
        refine⟨k+1,by omega,by go_num,by have:=HNN.out;omega,?_⟩
        have h:=(HS3.out.set 12 (.int .i64 cc)).sw.drop
        have e:dy x lv (kb ring multi stamp l (k+1))=.cells ((dA x lv (sS ring multi stamp l k)).setIfInBounds 12 (.int .i64 cc)) 216 (0,0):=by
         unfold dy dA sS kb
         rw[HT2.out,if_pos HMC.out]
         rfl
        rw[e]
        first|exact h|exact h.drew|(rw[show max mk cc=cc by have:=HMC.out;omega];first|exact h|exact h.drew)
     ·have HMC:=kH hmc
      go_wp2_with fail
      go_region
      all_goals
       go_wp2_with fail
       go_roundg (n-(k+1))
       case measure=>have:=HNN.out;omega
       case rel =>
        refine⟨k+1,by omega,by go_num,by have:=HNN.out;omega,?_⟩
        have h:=(HS3.out.set 12 (.int .i64 mk)).sw.drop
        have e:dy x lv (kb ring multi stamp l (k+1))=.cells ((dA x lv (sS ring multi stamp l k)).setIfInBounds 12 (.int .i64 mk)) 216 (0,0):=by
         unfold dy dA sS kb
         rw[HT2.out,if_neg (show ¬mk<cc by have:=HMC.out;omega)]
         rfl
        rw[e]
        first|exact h|exact h.drew|(rw[show max mk cc=mk by have:=HMC.out;omega];first|exact h|exact h.drew)
   ·have hke:k=n:=by omega
    subst hke
    have c1:=S.cell2 1
    have c4:=S.cell2 4
    have e17:=S.cell 17
    have e18:=S.cell 18
    have f17:=S.froz 17
    have f18:=S.froz 18
    simp only[dA,kb,gA,gZ,gS,oX]at c1 c4 e17 e18
    have hfin:∀ kn:Bool,kn=decide (multi=false\/ring=1\/stamp=1)->dy x lv (cX ring multi stamp l)=.cells (((dA x lv (kb ring multi stamp l k)).setIfInBounds 17 (.bool kn)).setIfInBounds 18 (ge 119 x)) 216 (0,0):=fun kn hkn=>by
     have e1:l.take k=l:=List.take_of_length_le (by rw[HN.out];exact Nat.le_refl _)
     unfold dy dA kb cX
     rw[e1,<-hkn]
     rfl
    have HFIN:=kH hfin
    clear hfin hn S
    cases multi
    ·go_wp2
     go_ret2
     first|refine⟨x,lv,rfl,?_⟩|refine⟨x,rfl,lv,?_⟩
     rw[HFIN.out true (by simp)]
     exact(((HSR.out.set 17 (.bool true)).set 18 (ge 119 x)).f2.drop)
    ·by_cases h1:ring=1
     ·have h1':(ring == 1)=true:=by simpa using h1
      have H1:=kH h1
      clear h1
      go_wp2
      go_ret2
      first|refine⟨x,lv,rfl,?_⟩|refine⟨x,rfl,lv,?_⟩
      rw[HFIN.out true (by simp[H1.out])]
      exact(((HSR.out.set 17 (.bool true)).set 18 (ge 119 x)).f2.drop)
     ·have h1':(ring == 1)=false:=by simpa using h1
      have H1:=kH h1
      clear h1
      go_wp2
      go_ret2
      first|refine⟨x,lv,rfl,?_⟩|refine⟨x,rfl,lv,?_⟩
      rw[HFIN.out (stamp == 1) (by have:=H1.out;by_cases h:stamp=1<;>simp[h,this])]
      exact(((HSR.out.set 17 (.bool (stamp == 1))).set 18 (ge 119 x)).f2.drop)
end
section
variable {w0:World}{X:List Nat}{Cs:List aw}{w:World}
structure dh where
 at_:Int
 thread:Int
 tx:Int
 e:bM
def fO(y:dh):List Value:=[.int .i64 y.at_,.int .i64 y.thread,.int .i64 y.tx,.int .i64 y.e.kind,.int .i64 y.e.cell,.int .i64 y.e.value,.bool y.e.own,.int .i64 y.e.start,.int .i64 y.e.seen,.int .i64 y.e.stamp,
 .int .u64 (y.e.sig.getD 0 0),.int .u64 (y.e.sig.getD 1 0),.int .u64 (y.e.sig.getD 2 0),.int .u64 (y.e.sig.getD 3 0),.int .u64 (y.e.sig.getD 4 0),.int .u64 (y.e.sig.getD 5 0),.int .u64 (y.e.sig.getD 6 0),.int .u64 (y.e.sig.getD 7 0),.int .i64 y.e.err]
def wa(y:dh):Value:=.agg (fO y).toArray
def aL(l:List dh):List Value:=l.flatMap fO
theorem fP(l:List dh):(aL l).length=l.length*19:=by
 induction l with
 | nil=>rfl
 | cons y l ih =>
  have e:aL (y::l)=fO y++aL l:=rfl
  rw[e]
  simp[ih,fO]
  omega
theorem o9(l:List dh)(y:dh):aL l++fO y=aL (l++[y]):=by
 unfold aL
 rw[List.flatMap_append]
 simp
def bW(v:Value)(l:List dh):aw:=aN 44 19 v l.length (aL l)
def du(e:bM):dh:=⟨0,0,0,e⟩
def bb(l:List bM):List dh:=l.map du
theorem DE(l:List bM)(e:bM):bb (l++[e])=bb l++[du e]:=by simp[bb]
def ez:WayD->Nat->Value
 | .no,_=>.nilIface
 | .beg _,a=>.iface 154 (ptr a)
 | .fet _,a=>.iface 160 (ptr a)
 | .com _,a=>.iface 167 (ptr a)
 | .bak _,a=>.iface 172 (ptr a)
def fu(lg:Nat)(wv tv:Value)(t:bZ):Array Value:=#[.int .i64 0,.int .i64 t.ring,.int .i64 t.writes,.int .i64 t.stamps,.bool t.multi,.int .i64 0,.slice none 0 0,ptr lg,.int .i64 t.phase,.int .i64 t.start,.int .i64 t.seen,
 .int .u64 (t.reads.getD 0 0),.int .u64 (t.reads.getD 1 0),.int .u64 (t.reads.getD 2 0),.int .u64 (t.reads.getD 3 0),.int .u64 (t.reads.getD 4 0),.int .u64 (t.reads.getD 5 0),.int .u64 (t.reads.getD 6 0),.int .u64 (t.reads.getD 7 0),
 .int .i64 t.cell,.int .i64 t.stamp,wv,tv]
def lM(lg:Nat)(wv tv:Value)(t:bZ):Obj:=.cells (fu lg wv tv t) 128 (0,0)
variable {x lg:Nat}{wv tv:Value}{t:bZ}
theorem Cb(lg:Nat)(wv tv v:Value)(t:bZ):(fu lg wv tv t).setIfInBounds 22 v=fu lg wv v t:=by simp[fu]
theorem ah.toldSet(h:ah w0 X (ag x (lM lg wv tv t)::Cs) w)(v:Value):ah w0 X (ag x (lM lg wv v t)::Cs) (w.setCell ⟨x,22,none⟩ v):=by
 have h6:=h.set 22 v
 rw[Cb]at h6
 exact h6
theorem gf:(Tryz.prog.info? 44).map (fun i=>(i.zero,i.size,i.bytes))=some (some (.agg #[.int .i64 0,.int .i64 0,.int .i64 0,.int .i64 0,.int .i64 0,.int .i64 0,.bool false,.int .i64 0,.int .i64 0,.int .i64 0,.int .u64 0,.int .u64 0,.int .u64 0,.int .u64 0,.int .u64 0,.int .u64 0,.int .u64 0,.int .u64 0,.int .i64 0]),19,152):=by kernel_rfl
theorem ev_load(w:World)(g:Nat)(y:dh)(h:w.heap[g]?=some (.cells (fO y).toArray 44 (0,0))):(loadVar 44 ⟨g,0,none⟩).run Tryz.prog w=.ok (wa y) w :=
 run_loadVar_row w g _ _ _ _ _ h Tryz.underlying44 rfl (by
  obtain⟨i0,yi,yz0,yz1,yz2⟩:=info_parts gf
  rw[yi]
  simp[yz1,fO])
theorem Dd(w:World)(y:dh):(Instr.buildSlice 37 1 #[(0,wa y)]).run Tryz.prog w=.ok (.slice (some ⟨w.heap.size,0,none⟩) 1 1) (w.alloc (.cells (fO y).toArray 44 (0,0))):=by
 obtain⟨i0,yi,yz0,yz1,yz2⟩:=info_parts gf
 refine run_buildSlice w _ _ 1 _ _ i0 _ Tryz.underlying37 yi yz0 (by rw[yz1];decide) (by rw[yz1];decide) ?_
 rw[yz1]
 refine(Great.fill_whole (s:=19) (by decide) [wa y] _ (fun v hv=>by rw[List.mem_singleton.1 hv];simp[wa,fO,Value.cells]) (by simp)).trans ?_
 simp[wa,fO,Value.cells]
theorem ip(s:Nat)(hs:0<s)(cells vs:Array Value)(h1:vs.size=s)(h2:cells.size=s):Instr.fill (fun i=>some (i*s,s)) cells [(0,.agg vs)]=some vs:=by
 refine(Great.fill_whole hs [.agg vs] cells (fun v hv=>by rw[List.mem_singleton.1 hv];exact h1) (by simp[h2])).trans ?_
 simp[Value.cells]
attribute [local go_sem high] ip
class zY(w:World)(g:Nat)(cs:outParam (Array Value)):Prop where
 at_:w.heap[g]?=some (.cells cs 44 (0,0))
 len:cs.size=19
theorem xZ{w:World}{g:Nat}{cs:Array Value} [h:zY w g cs]:(loadVar 44 ⟨g,0,none⟩).run Tryz.prog w=.ok (.agg cs) w :=
 run_loadVar_row w g _ _ _ _ _ h.at_ Tryz.underlying44 rfl (by
  obtain⟨i0,yi,yz0,yz1,yz2⟩:=info_parts gf
  rw[yi,h.len,<-yz1]
  rfl)
def qM(v:Value):Sem Value:=Instr.loadAt 44 v
theorem oA(v:Value):Instr.loadAt 44 v=qM v:=rfl
theorem mh{w:World}{g:Nat}{cs:Array Value} [h:zY w g cs]:(qM (.pointer (some ⟨g,0,none⟩))).run Tryz.prog w=.ok (.agg cs) w:=by
 unfold qM Instr.loadAt
 simp only[Instr.sureAddr,Sem.run_bind,Sem.run_pure,Result.andThen_ok,xZ]
attribute [local go_sem ↓] oA
attribute [local go_sem] mh
def j8(y:dh):Obj:=.cells (fO y).toArray 44 (0,0)
theorem lA(y:dh):∀ v∈fO y,v.oneCell'=true:=by
 intro v hv
 simp only[fO,List.mem_cons,List.not_mem_nil,or_false]at hv
 rcases hv with rfl|rfl|rfl|rfl|rfl|rfl|rfl|rfl|rfl|rfl|rfl|rfl|rfl|rfl|rfl|rfl|rfl|rfl|rfl<;>rfl
theorem pN(y:dh):(fO y).length=19:=rfl
theorem iK(hS:ah w0 X (ag x (lM lg wv tv t)::bW tv (bb t.told)::Cs) w)(e:bM)(hn:t.told.length<=1073741824) :
  Calls Tryz.prog 85 #[ptr x,wa (du e)] w (fun r w'=>r=.returned (.tuple #[])/\∃ tv',ah w0 X (ag x (lM lg wv tv' t)::bW tv' (bb (t.told++[e]))::Cs) w'):=by
 obtain⟨i0,yi,yz0,yz1,yz2⟩:=info_parts gf
 have hE:=o9 (bb t.told) (du e)
 rw[<-DE]at hE
 have hlen:(bb (t.told++[e])).length=t.told.length+1:=by simp[bb]
 have hlen0:(bb t.told).length=t.told.length:=by simp[bb]
 have hlt:=af hS.h0
 have S1:=hS.alloc (j8 (du e))
 have hbox:=ar (w:=w) (o:=j8 (du e)) rfl
 unfold bW at S1 ⊢
 rw[hlen,<-hE]
 rw[hlen0]at S1
 have hone:=lA (du e)
 have hl19:=pN (du e)
 have hld:∀ r,(loadVar 44 ⟨w.heap.size,0,none⟩).run Tryz.prog ((w.alloc (j8 (du e))).drewN r)=.ok (wa (du e)) ((w.alloc (j8 (du e))).drewN r):=fun r=>ev_load _ _ _ hbox
 have hsl:∀ r,(Instr.buildSlice 37 1 #[(0,wa (du e))]).run Tryz.prog ((w.alloc (j8 (du e))).drewN r)=.ok (.slice (some ⟨(w.alloc (j8 (du e))).heap.size,0,none⟩) 1 1) (((w.alloc (j8 (du e))).drewN r).alloc (.cells (fO (du e)).toArray 44 (0,0))):=fun r=>Dd _ _
 clear hE hlen hlen0
 unfold j8 wa at *
 have HONE:=kH hone
 have HL:=kH hl19
 generalize du e=y at *
 have HNW:Hid (∀ (W:World) (n:Nat) (u:Value),(fO y)[n]?=some u->(W.alloc (.cells (fO y).toArray 44 (0,0))).cell? ((⟨W.heap.size,0,none⟩:Addr).add n)=some u):=fun W n u hu=>cG (ar rfl) n u (by simpa using hu)
 obtain⟨a0,a1,a2,a3,a4,a5,a6,a7,a8,a9,a10,a11,a12,a13,a14,a15,a16,a17,a18,hnews⟩:∃ a0 a1 a2 a3 a4 a5 a6 a7 a8 a9 a10 a11 a12 a13 a14 a15 a16 a17 a18,fO y=[a0,a1,a2,a3,a4,a5,a6,a7,a8,a9,a10,a11,a12,a13,a14,a15,a16,a17,a18]:=⟨_,_,_,_,_,_,_,_,_,_,_,_,_,_,_,_,_,_,_,rfl⟩
 generalize fO y=news at *
 subst hnews
 generalize aL (bb t.told)=xs at *
 generalize t.told.length=n at *
 generalize hw1:w.alloc (.cells #[a0,a1,a2,a3,a4,a5,a6,a7,a8,a9,a10,a11,a12,a13,a14,a15,a16,a17,a18] 44 (0,0))=w1 at *
 have HS1:=kH S1
 have hRow:w1.ownsRow 0 44 19 tv n xs:=S1.h1
 have k22:=S1.cell 22
 simp only[fu,gA,gZ,gS]at k22
 have hlt1:=af S1.h0
 have hblk:zY w1.drew w.heap.size #[a0,a1,a2,a3,a4,a5,a6,a7,a8,a9,a10,a11,a12,a13,a14,a15,a16,a17,a18]:=⟨hbox,rfl⟩
 clear hS S1 hbox hone hl19 hsl hld
 unfold ptr at *
 go_enter Tryz.func85,Tryz.ntmps85
 go_wp2_with fail
 go_region_law(refine step_append_lies _ rfl (.tmp 8) (.tmp 10) 37 rfl 0 44 i0 _ 19 152 Tryz.underlying37 yi yz0 yz1 yz2 rfl (by decide) tv n xs rfl (World.ownsRow.alloc (w:=w1.drewN _) hRow _) ⟨w1.heap.size,0,none⟩ 1 1 [a0,a1,a2,a3,a4,a5,a6,a7,a8,a9,a10,a11,a12,a13,a14,a15,a16,a17,a18] rfl (by rw[HL.out]) (HNW.out _) HONE.out (by decide) (by unfold maxLen;omega) (by omega) (Nat.zero_le _) _ rfl ?_;intro g cap w5 hown5 hgrow5 hat5 hgl5;have S5:=(((HS1.out.drewN _).alloc _).sw.append hgrow5 hown5 hat5 (Nat.le_refl _)).sw;have hcf5:=S5.froz 22;have hcc5:=S5.cell 22;simp only[fu,gA,gZ,gS]at hcc5;have HS5:=kH S5;clear S5)
 all_goals
  have S6:=HS5.out.toldSet (.slice (some ⟨g,0,none⟩) (n+1) cap)
  have HS6:=kH S6
  clear S6 hown5 hgrow5 hat5
  go_wp2
  go_end0
  exact⟨rfl,_,HS6.out⟩
end
section
variable {w0:World}{X:List Nat}{Cs:List aw}{w:World}{x p L:Nat}{wv tv:Value}{t:bZ}{q:dX}{F:List Nat}{m:au}
def eK(x:Nat)(q:dX)(wv tv:Value)(t:bZ)(Cs:List aw):List aw:=ag x (lM q.g wv tv t)::bW tv (bb t.told)::eT q t.wrote t.list Cs
theorem Cc(lg:Nat)(wv tv:Value)(t:bZ):(((((((((((((fu lg wv tv t).setIfInBounds 8 (.int .i64 0)).setIfInBounds 21 .nilIface).setIfInBounds 9 (.int .i64 0)).setIfInBounds 10 (.int .i64 0)).setIfInBounds 11 (.int .u64 0)).setIfInBounds 12 (.int .u64 0)).setIfInBounds 13 (.int .u64 0)).setIfInBounds 14 (.int .u64 0)).setIfInBounds 15 (.int .u64 0)).setIfInBounds 16 (.int .u64 0)).setIfInBounds 17 (.int .u64 0)).setIfInBounds 18 (.int .u64 0))=fu lg .nilIface tv (gu t):=by
 simp[fu,gu,bQ]
theorem ah.txOver{lg:Nat}(h:ah w0 X (ag x (lM lg wv tv t)::Cs) w):ah w0 X (ag x (lM lg .nilIface tv (gu t))::Cs) ((((((((((((w.setCell ⟨x,8,none⟩ (.int .i64 0)).setCell ⟨x,21,none⟩ .nilIface).setCell ⟨x,9,none⟩ (.int .i64 0)).setCell ⟨x,10,none⟩ (.int .i64 0)).setCell ⟨x,11,none⟩ (.int .u64 0)).setCell ⟨x,12,none⟩ (.int .u64 0)).setCell ⟨x,13,none⟩ (.int .u64 0)).setCell ⟨x,14,none⟩ (.int .u64 0)).setCell ⟨x,15,none⟩ (.int .u64 0)).setCell ⟨x,16,none⟩ (.int .u64 0)).setCell ⟨x,17,none⟩ (.int .u64 0)).setCell ⟨x,18,none⟩ (.int .u64 0)):=by
 have h6:=(((((((((((h.set 8 (.int .i64 0)).set 21 .nilIface).set 9 (.int .i64 0)).set 10 (.int .i64 0)).set 11 (.int .u64 0)).set 12 (.int .u64 0)).set 13 (.int .u64 0)).set 14 (.int .u64 0)).set 15 (.int .u64 0)).set 16 (.int .u64 0)).set 17 (.int .u64 0)).set 18 (.int .u64 0)
 rw[Cc]at h6
 exact h6
theorem ah.logFront{a b:aw}{s:List Int}{l:List (Int×Int)}(h:ah w0 X (a::b::eT q s l Cs) w):ah w0 X (eT q s l (a::b::Cs)) w:=by
 unfold eT ei at *
 have h1:ah w0 X ([a,b]++([ag q.g (tO q.t s),ag q.t (iV q.most q.sb q.sl.length q.lv q.sh),ag q.sb (gD q.sl),gy q.lv l]++Cs)) w:=h
 have h2:=h1.perm (List.perm_append_comm_assoc [a,b] _ Cs)
 exact h2
theorem ah.logBack{a b:aw}{s:List Int}{l:List (Int×Int)}(h:ah w0 X (eT q s l (a::b::Cs)) w):ah w0 X (a::b::eT q s l Cs) w:=by
 unfold eT ei at *
 have h1:ah w0 X ([ag q.g (tO q.t s),ag q.t (iV q.most q.sb q.sl.length q.lv q.sh),ag q.sb (gD q.sl),gy q.lv l]++([a,b]++Cs)) w:=h
 have h2:=h1.perm (List.perm_append_comm_assoc _ [a,b] Cs)
 exact h2
theorem zw(hS:ah w0 X (eK x q wv tv t Cs) w)(hr:q.R t.list) :
  Calls Tryz.prog 92 #[ptr x] w (fun e w'=>e=.returned (.tuple #[])/\∃ q',q'.g=q.g/\q'.most=q.most/\dX.R q' []/\ah w0 X (eK x q' .nilIface tv (gu t) Cs) w'):=by
 have k7:=hS.cell 7
 simp only[fu,gA,gZ,gS]at k7
 have HC:=kH (BS (ah.logFront hS) hr)
 clear hS hr
 unfold ptr at *
 go_enter Tryz.func92,Tryz.ntmps92
 go_wp2_with fail
 refine HC.out.mono ?_
 rintro e w1 ⟨rfl,q',hg,hm,hR,S1⟩
 have S2:=ah.logBack S1
 have hk:=fun j=>S2.cell j
 simp only[fu]at hk
 have f8:=S2.froz 8
 have f9:=S2.froz 9
 have f10:=S2.froz 10
 have f11:=S2.froz 11
 have f12:=S2.froz 12
 have f13:=S2.froz 13
 have f14:=S2.froz 14
 have f15:=S2.froz 15
 have f16:=S2.froz 16
 have f17:=S2.froz 17
 have f18:=S2.froz 18
 have f21:=S2.froz 21
 have c8:=hk 8
 have c9:=hk 9
 have c10:=hk 10
 have c11:=hk 11
 have c12:=hk 12
 have c13:=hk 13
 have c14:=hk 14
 have c15:=hk 15
 have c16:=hk 16
 have c17:=hk 17
 have c18:=hk 18
 have c21:=hk 21
 simp only[gA,gZ,gS]at c8 c9 c10 c11 c12 c13 c14 c15 c16 c17 c18 c21
 generalize (Value.int .u64 (t.reads.getD 0 0))=v0 at c11
 generalize (Value.int .u64 (t.reads.getD 1 0))=v1 at c12
 generalize (Value.int .u64 (t.reads.getD 2 0))=v2 at c13
 generalize (Value.int .u64 (t.reads.getD 3 0))=v3 at c14
 generalize (Value.int .u64 (t.reads.getD 4 0))=v4 at c15
 generalize (Value.int .u64 (t.reads.getD 5 0))=v5 at c16
 generalize (Value.int .u64 (t.reads.getD 6 0))=v6 at c17
 generalize (Value.int .u64 (t.reads.getD 7 0))=v7 at c18
 have HS2:=kH S2
 have HR:=kH hR
 have HG:=kH hg
 have HM:=kH hm
 clear S1 S2 hk hR hg hm k7
 go_wp2
 go_end0
 refine⟨rfl,q',HG.out,HM.out,HR.out,?_⟩
 have S3:=HS2.out
 rw[<-HG.out]at S3
 exact S3.txOver
end
section
variable {w0:World}{X:List Nat}{Cs:List aw}{w:World}{x p L:Nat}{wv tv:Value}{t:bZ}{q:dX}{F:List Nat}{m:au}
theorem ah.txIn{b:aw}(h:ah w0 X (b::eK x q wv tv t Cs) w):ah w0 X (eK x q wv tv t (b::Cs)) w:=by
 unfold eK eT ei at *
 have h1:ah w0 X ([b]++([ag x (lM q.g wv tv t),bW tv (bb t.told),ag q.g (tO q.t t.wrote),ag q.t (iV q.most q.sb q.sl.length q.lv q.sh),ag q.sb (gD q.sl),gy q.lv t.list]++Cs)) w:=h
 exact h1.perm (List.perm_append_comm_assoc [b] _ Cs)
theorem ah.txOut{b:aw}(h:ah w0 X (eK x q wv tv t (b::Cs)) w):ah w0 X (b::eK x q wv tv t Cs) w:=by
 unfold eK eT ei at *
 have h1:ah w0 X ([ag x (lM q.g wv tv t),bW tv (bb t.told),ag q.g (tO q.t t.wrote),ag q.t (iV q.most q.sb q.sl.length q.lv q.sh),ag q.sb (gD q.sl),gy q.lv t.list]++([b]++Cs)) w:=h
 exact h1.perm (List.perm_append_comm_assoc _ [b] Cs)
theorem nr(hS:ah w0 X (eK x q wv tv t Cs) w)(hr:q.R t.list)(hrd:t.reads.length=8)(hn:t.told.length<=1073741824)(er:Int)(ac:Bool) :
  Calls Tryz.prog 57 #[ptr x,.int .i64 er,.bool ac] w (fun e w'=>e=.returned (de t er ac).1.val/\∃ q' tv',q'.g=q.g/\q'.most=q.most/\dX.R q' []/\ah w0 X (eK x q' .nilIface tv' (de t er ac).2 Cs) w'):=by
 have S0:=hS.new aB
 have S1:=(ah.txIn S0).drew
 have HT:=kH (iK S1 {fd with kind:=6,err:=er,start:=t.start,seen:=t.seen,sig:=t.reads} hn)
 have HR:=kH hr
 obtain⟨r0,r1,r2,r3,r4,r5,r6,r7,hq⟩:=lT hrd
 have hk:=fun j=>hS.cell j
 simp only[fu,hq]at hk
 have c9:=hk 9
 have c10:=hk 10
 have c11:=hk 11
 have c12:=hk 12
 have c13:=hk 13
 have c14:=hk 14
 have c15:=hk 15
 have c16:=hk 16
 have c17:=hk 17
 have c18:=hk 18
 simp only[gA,gZ,gS,List.getD_cons_zero,List.getD_cons_succ]at c9 c10 c11 c12 c13 c14 c15 c16 c17 c18
 unfold wa fO du fd at HT
 rw[hq]at HT
 simp only[List.getD_cons_zero,List.getD_cons_succ]at HT
 have hlt:=af hS.h0
 have HEND:Hid (de t er ac=(if er=0 then⟨3,0,0,ac⟩else⟨4,er,0,ac⟩,gu (bO t {fd with kind:=6,err:=er,start:=t.start,seen:=t.seen,sig:=t.reads}))):=rfl
 generalize de t er ac=R at HEND ⊢
 have HQ:=kH hq
 clear hS S0 S1 hr hrd hk hn hq
 obtain⟨st,hst⟩:∃ st,t.start=st:=⟨_,rfl⟩
 obtain⟨sn,hsn⟩:∃ sn,t.seen=sn:=⟨_,rfl⟩
 rw[hst]at c9 HT
 rw[hsn]at c10 HT
 have HST:=kH hst
 have HSN:=kH hsn
 clear hst hsn
 unfold ptr at *
 go_enter Tryz.func57,Tryz.ntmps57
 go_wp2_with fail
 refine wp_region_still_tail 15 (by kernel_rfl) (by kernel_rfl) ?_
 change wpStill _ _ (World.drew _) (fun a'=>wpList _ _ _ _ a' (World.drew _)) _ _
 simp only[List.take_succ_cons,List.take_zero,List.drop_succ_cons,List.drop_zero]
 repeat still_step
 refine wpStill_nil ?_
 go_wp2_with fail
 refine HT.out.mono ?_
 rintro e1 w1 ⟨rfl,tv',S2⟩
 have S3:ah w0 X (eK x q wv tv' (bO t {fd with kind:=6,err:=er,start:=t.start,seen:=t.seen,sig:=t.reads}) (ag w.heap.size aB::Cs)) w1:=by
  rw[HQ.out,HST.out,HSN.out]
  exact S2
 have HO:=kH (zw S3 HR.out)
 clear S2 S3 c9 c10 c11 c12 c13 c14 c15 c16 c17 c18
 go_wp2_with fail
 refine HO.out.mono ?_
 rintro e2 w2 ⟨rfl,q',hg,hm,hR,S4⟩
 have S5:=ah.txOut S4
 obtain⟨⟨a0,a1,a2,a3⟩,⟨g0,g1,g2,g3⟩⟩:=S5.ansBox
 have HS5:=kH S5
 have HG:=kH hg
 have HM:=kH hm
 have HR2:=kH hR
 clear S4 S5 hg hm hR
 by_cases h0:er=0
 ·subst h0
  go_wp2
  have hR:=HEND.out
  rw[if_pos trivial]at hR
  subst hR
  refine ah.ret ⟨3,0,0,ac⟩ rfl HS5.out rfl rfl fun W' SF=>⟨rfl,q',tv',HG.out,HM.out,HR2.out,SF⟩
 ·have HN0:=kH h0
  go_wp2
  have hR:=HEND.out
  rw[if_neg HN0.out]at hR
  subst hR
  refine ah.ret ⟨4,er,0,ac⟩ rfl HS5.out rfl rfl fun W' SF=>⟨rfl,q',tv',HG.out,HM.out,HR2.out,SF⟩
end
end Go.Proofs.YtgfogfciobmmpaaGreatDoor
