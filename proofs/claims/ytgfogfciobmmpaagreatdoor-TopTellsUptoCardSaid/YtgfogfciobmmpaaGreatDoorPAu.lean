/- A part of the proof of the law TopTells: BakN. -/
import Derived.Test.YtgfogfciobmmpaaGreatDoorPAt
import Derived.StillTailTactics
import Derived.Deep.DeepCutAuto
set_option linter.unusedSimpArgs false
set_option linter.unusedVariables false
set_option maxRecDepth 100000
set_option maxHeartbeats 8000000
namespace Go.Proofs.YtgfogfciobmmpaaGreatDoor
section
open Go.RowKit
variable {w0:World} {X:List Nat} {Cs:List Comp} {w:World} {x p L:Nat} {lv:Value} {F:List Nat} {m:MemD} {b:BakD}
theorem infoWr:(Tryz.prog.info? 218).map (fun i=>(i.zero,i.size,i.bytes))=some (some (.agg #[.int .i64 0,.int .i64 0]),2,16):=by kernel_rfl
theorem wcells_one (l:List (Int×Int)):∀ u∈wcells l,u.oneCell'=true:=fun u hu=>by
 unfold wcells at hu
 obtain ⟨y,_,hy⟩:=List.mem_flatMap.1 hu
 simp at hy
 rcases hy with rfl | rfl <;> rfl
theorem sigOf_take (l:List (Int×Int)) (k:Nat) (h:k < l.length):sigOf (l.take (k+1))=withC (sigOf (l.take k)) (l.getD k (0,0)).1:=by
 rw [List.take_succ_eq_append_getElem h]
 unfold sigOf
 rw [List.foldl_append]
 rw [List.getD_eq_getElem?_getD,List.getElem?_eq_getElem h]
 rfl
theorem mostOf_take (l:List (Int×Int)) (k:Nat) (h:k < l.length):mostOf (l.take (k+1))=if mostOf (l.take k) < (l.getD k (0,0)).1 then (l.getD k (0,0)).1 else mostOf (l.take k):=by
 rw [List.take_succ_eq_append_getElem h]
 unfold mostOf
 rw [List.foldl_append]
 rw [List.getD_eq_getElem?_getD,List.getElem?_eq_getElem h]
 rfl
def cfgO (raw ring writes stamps:Int) (multi:Bool) (tries:Int) (rv:Value):Obj:=.cells #[.int .i64 raw,.int .i64 ring,.int .i64 writes,.int .i64 stamps,.bool multi,.int .i64 tries,rv] 24 (0,0)
def bakIn (ring:Int) (multi:Bool) (stamp:Int) (l:List (Int×Int)) (k:Nat):BakD:=⟨ring,multi,stamp,l,sigOf (l.take k),mostOf (l.take k),l.length,0,0,0,false,7⟩
theorem bakN_first {l:List (Int×Int)} {sv:Value} {cfg:Obj} {r n g5 cap5:Nat} {w5:World} {ring stamp:Int} {multi:Bool} (hS:Sep w0 X (cWr sv l::Cs) w) (hn:l.length=n) (hg:((w.alloc cfg).drewN r).grownBy w5 (Value.slice none 0 0).ownBlock)
   (ho:w5.ownsRow 0 218 2 (.slice (some ⟨g5,0,none⟩) (0+n) cap5) (0+n) ([]++wcells l)) (ha:(Value.slice none 0 0).ownBlock=some g5∨g5=((w.alloc cfg).drewN r).heap.size) :
   ∃ x lv,Value.pointer (some ⟨w5.heap.size,0,none⟩)=ptr x∧Sep w0 X (cBlk x (bakO x lv (bakIn ring multi stamp l 0))::cWr lv l::cBlk w.heap.size cfg::cWr sv l::Cs)
     (w5.alloc (.cells #[.int .i64 ring,.bool multi,.int .i64 stamp,.slice (some ⟨g5,0,none⟩) n cap5,.int .u64 0,.int .u64 0,.int .u64 0,.int .u64 0,.int .u64 0,.int .u64 0,.int .u64 0,.int .u64 0,.int .i64 0,.int .i64 n,.int .i64 0,.int .i64 0,.int .i64 0,.bool false,.nilFunc] 216 (0,0))):=by
 subst hn
 simp only [Nat.zero_add,List.nil_append] at ho
 have S2:=(((hS.new cfg).drewN r).nilRow 218 2).append hg ho ha (Nat.le_refl _)
 exact ⟨_,_,rfl,S2.new _⟩
def bakMd (ring:Int) (multi:Bool) (stamp:Int) (l:List (Int×Int)) (k:Nat):BakD:={ bakIn ring multi stamp l k with sig:=sigOf (l.take (k+1)) }
theorem Sep.sigs {s:List Int} {x:Nat} {lv:Value} {b:BakD} {W:World} (h:Sep w0 X (cBlk x (bakO x lv b)::Cs) W) (hs:b.sig=s) (h8:s.length=8) :
   ∃ a0 a1 a2 a3 a4 a5 a6 a7:Int,s=[a0,a1,a2,a3,a4,a5,a6,a7]∧W.cell? ⟨x,4,none⟩=some (.int .u64 a0)∧W.cell? ⟨x,5,none⟩=some (.int .u64 a1)∧W.cell? ⟨x,6,none⟩=some (.int .u64 a2)∧W.cell? ⟨x,7,none⟩=some (.int .u64 a3)∧W.cell? ⟨x,8,none⟩=some (.int .u64 a4)∧W.cell? ⟨x,9,none⟩=some (.int .u64 a5)∧W.cell? ⟨x,10,none⟩=some (.int .u64 a6)∧W.cell? ⟨x,11,none⟩=some (.int .u64 a7):=by
 obtain ⟨a0,a1,a2,a3,a4,a5,a6,a7,e⟩:=eight h8
 have hc:=fun j=>h.cell j
 simp only [bakA,hs,e] at hc
 exact ⟨a0,a1,a2,a3,a4,a5,a6,a7,e,hc 4,hc 5,hc 6,hc 7,hc 8,hc 9,hc 10,hc 11⟩
theorem Sep.sigs_set {x:Nat} {lv:Value} {b:BakD} {W:World} (h:Sep w0 X (cBlk x (bakO x lv b)::Cs) W) {s:List Int} (a0 a1 a2 a3 a4 a5 a6 a7:Int) (hs:s=[a0,a1,a2,a3,a4,a5,a6,a7]) :
   Sep w0 X (cBlk x (bakO x lv { b with sig:=s })::Cs) ((((((((W.setCell ⟨x,4,none⟩ (.int .u64 a0)).setCell ⟨x,5,none⟩ (.int .u64 a1)).setCell ⟨x,6,none⟩ (.int .u64 a2)).setCell ⟨x,7,none⟩ (.int .u64 a3)).setCell ⟨x,8,none⟩ (.int .u64 a4)).setCell ⟨x,9,none⟩ (.int .u64 a5)).setCell ⟨x,10,none⟩ (.int .u64 a6)).setCell ⟨x,11,none⟩ (.int .u64 a7)):=by
 subst hs
 have h8:=(((((((h.set 4 (.int .u64 a0)).set 5 (.int .u64 a1)).set 6 (.int .u64 a2)).set 7 (.int .u64 a3)).set 8 (.int .u64 a4)).set 9 (.int .u64 a5)).set 10 (.int .u64 a6)).set 11 (.int .u64 a7)
 have e:((((((((bakA x lv b).setIfInBounds 4 (.int .u64 a0)).setIfInBounds 5 (.int .u64 a1)).setIfInBounds 6 (.int .u64 a2)).setIfInBounds 7 (.int .u64 a3)).setIfInBounds 8 (.int .u64 a4)).setIfInBounds 9 (.int .u64 a5)).setIfInBounds 10 (.int .u64 a6)).setIfInBounds 11 (.int .u64 a7)=bakA x lv { b with sig:=[a0,a1,a2,a3,a4,a5,a6,a7] }:=by
   simp [bakA]
 rw [e] at h8
 exact h8
theorem New_bak (l:List (Int×Int)) (sv:Value) (hS:Sep w0 X (cWr sv l::Cs) w) (raw ring writes stamps:Int) (multi:Bool) (tries:Int) (ra:Option Addr) (rn rc:Nat) (stamp:Int) (h0:1≤ring∧ring≤16) (hs:1≤stamp∧stamp≤1099511627776) (hl:0 < l.length∧l.length≤24) (hok:∀ y∈l,0≤y.1∧y.1 < 1024) :
   Calls Tryz.prog 95 #[cfgV raw ring writes stamps multi tries (.slice ra rn rc),.int .i64 stamp,sv] w (fun e w'=>∃ x lv,e=.returned (.tuple #[ptr x,.int .i64 0]) ∧
     Sep w0 X (cBlk x (bakO x lv (newBak ring multi stamp l))::cWr lv l::cWr sv l::Cs) w'):=by
 obtain ⟨i0,yi,yz0,yz1,yz2⟩:=info_parts infoWr
 have hrow:RowAt w _ _ _ _ _:=hS.h0
 obtain ⟨g,cap,rfl,hcap,hcm,hg,hrf,hcell,hfz⟩:=hrow.read hl.1
 obtain ⟨n,hn⟩:∃ n,l.length=n:=⟨_,rfl⟩
 have HCELL:=kH hcell
 have hS2:=hS
 rw [hn] at hS2
 have HS:=kH hS2
 clear hS2
 have HN:=kH hn
 have HOK:=kH hok
 have HROW:=kH hrow
 obtain ⟨h0a,h0b⟩:=h0
 obtain ⟨hsa,hsb⟩:=hs
 obtain ⟨hla,hlb⟩:=hl
 rw [hn] at hla hlb hcap
 unfold maxLen at hcm
 have HNW:Hid (∀ (r:Nat) (o:Obj) j u,(wcells l)[j]?=some u→((w.alloc o).drewN r).cell? ((⟨g,0,none⟩:Addr).add j)=some u):=fun r o j u hu=>by
   have h:=HCELL.out j u hu
   have e:(⟨g,0,none⟩:Addr).add j=⟨g,j,none⟩:=by unfold Addr.add;split <;> simp_all
   rw [e]
   exact (World.cell?_of_block (show ((w.alloc o).drewN r).heap[g]?=w.heap[g]? from heap_alloc_old w o hg)).trans h
 clear hS hn hok hcell hrow hrf hfz
 unfold cfgV
 have hnn:decide ((24:Int) < (n:Int))=false:=by simp;omega
 rw [HN.out]
 go_enter Tryz.func95,Tryz.ntmps95
 go_upto_region 3 with (fail)
 go_cut [8] (fun c8 wx=>∃ x lv,c8=ptr x∧Sep w0 X (cBlk x (bakO x lv (bakIn ring multi stamp l 0))::cWr lv l::cBlk w.heap.size (cfgO raw ring writes stamps multi tries (.slice ra rn rc))::cWr (.slice (some ⟨g,0,none⟩) n cap) l::Cs) wx)
 case first =>
   go_region_law (refine step_append_lies _ rfl (.const (.slice none 0 0)) (.tmp 37) 165 rfl 0 218 i0 _ 2 16 Tryz.underlying165 yi yz0 yz1 yz2 rfl (by decide) (.slice none 0 0) 0 [] rfl (World.ownsRow_nil _ _ _ _) ⟨g,0,none⟩ n cap (wcells l) rfl (by rw [wcells_length,HN.out]) (HNW.out _ _) (wcells_one l) (by omega) (by unfold maxLen;omega) (by omega) (Nat.zero_le _) _ rfl ?_;intro g5 cap5 w5 hown5 hgrow5 hat5 hgl5;have hcf5:w5.heap[w.heap.size]?=some _:=(hgrow5.block w.heap.size (by simp) (fun e=>nomatch e)).trans (heap_new_at (w:=w) (o:=.cells #[.int .i64 raw,.int .i64 ring,.int .i64 writes,.int .i64 stamps,.bool multi,.int .i64 tries,.slice ra rn rc] 24 (0,0)) rfl);have e1:=cell_of_row w5 w.heap.size 1 _ _ _ hcf5;have e4:=cell_of_row w5 w.heap.size 4 _ _ _ hcf5;simp only [gA,gZ,gS] at e1 e4;have HCF5:=kH hcf5;clear hcf5)
   all_goals
     go_wp2_with fail
     go_meet
     exact bakN_first HS.out HN.out hgrow5 hown5 hat5
 case rest =>
   obtain ⟨x,lv,rfl,S⟩:=hcut
   have HS0:=kH S
   clear S
   unfold ptr
   go_wp2_with fail
   go_loopg [45] n (fun nn v45 wr=>∃ k:Nat,k≤n∧v45=.int .i64 k∧nn+k=n∧Sep w0 X (cBlk x (bakO x lv (bakIn ring multi stamp l k))::cWr lv l::cBlk w.heap.size (cfgO raw ring writes stamps multi tries (.slice ra rn rc))::cWr (.slice (some ⟨g,0,none⟩) n cap) l::Cs) wr)
   case atStart=>exact ⟨0,Nat.zero_le _,by go_num,by omega,HS0.out⟩
   case round =>
     obtain ⟨k,hk,rfl,hn,S⟩:=hrel
     have HNN:=kH hn
     have HSR:=kH S
     by_cases hkn:k < n
     · have hrow:RowAt wr _ _ _ _ _:=S.h3
       have hkl:k < l.length:=by rw [HN.out];exact hkn
       obtain ⟨hc0,hc1⟩:=wcells_at l k hkl
       obtain ⟨g',cap',hgg,-,-,hgl,-,hcell,-⟩:=hrow.read (by omega)
       have hg':g'=g:=by
         injection hgg with h1
         injection h1 with h1
         injection h1 with h1
         exact h1.symm
       subst hg'
       have d0:=hcell _ _ hc0
       have d1:=hcell _ _ hc1
       rw [Nat.mul_comm] at d0 d1
       have hmem:=HOK.out _ (show l.getD k (0,0)∈l by rw [List.getD_eq_getElem?_getD,List.getElem?_eq_getElem hkl];simp)
       have HT1:=kH (sigOf_take l k hkl)
       have HT2:=kH (mostOf_take l k hkl)
       generalize l.getD k (0,0)=cv at *
       obtain ⟨cc,vv⟩:=cv
       simp only at d0 d1 hmem HT1 HT2
       obtain ⟨hm0,hm1⟩:=hmem
       clear hn S hrow hkl hc0 hc1 hcell hgg
       go_upto_region 9 with (fail)
       have S1:=HSR.out.new (.cells #[.int .i64 cc,.int .i64 vv] 218 (0,0))
       have HS1:=kH S1
       have b0:=S1.cell 0
       simp only [gA,gZ] at b0
       obtain ⟨r0,r1,r2,r3,r4,r5,r6,r7,hrs,l4,l5,l6,l7,l8,l9,l10,l11⟩:=S1.sw.sigs (s:=sigOf (l.take k)) rfl (sigOf_ok _).1
       have hsok:=sigOf_ok (l.take k)
       have HW:=kH (With_calls _ cc hsok)
       have hnx:=(withC_ok hsok cc).1
       rw [← HT1.out] at HW hnx
       have hv:sigV (sigOf (l.take k))=.agg #[.int .u64 r0,.int .u64 r1,.int .u64 r2,.int .u64 r3,.int .u64 r4,.int .u64 r5,.int .u64 r6,.int .u64 r7]:=by rw [hrs];rfl
       rw [hv] at HW
       obtain ⟨a0,a1,a2,a3,a4,a5,a6,a7,hva,hvv⟩:=agg8 hnx
       rw [hvv] at HW
       have HVA:=kH hva
       clear hsok hnx hv hva hvv hrs S1 d0 d1
       generalize hbk:wr.heap.size=bk at *
       generalize hW1:wr.alloc (.cells #[.int .i64 cc,.int .i64 vv] 218 (0,0))=W1 at *
       clear hW1 hbk
       go_cut [] (fun wx=>Sep w0 X (cBlk bk (.cells #[.int .i64 cc,.int .i64 vv] 218 (0,0))::cBlk x (bakO x lv (bakMd ring multi stamp l k))::cWr lv l::cBlk w.heap.size (cfgO raw ring writes stamps multi tries (.slice ra rn rc))::cWr (.slice (some ⟨g',0,none⟩) n cap) l::Cs) wx)
       case first =>
         go_region_law (go_simp;refine (HW.out _).mono ?_;rintro e2 w2 ⟨rfl,hb2⟩;have S2:=((HS1.out.drewN _).below hb2).sw;obtain ⟨q0,q1,q2,q3,q4,q5,q6,q7,-,m4,m5,m6,m7,m8,m9,m10,m11⟩:=S2.sigs (s:=sigOf (l.take k)) rfl (sigOf_ok _).1;have n4:=S2.froz 4;have n5:=S2.froz 5;have n6:=S2.froz 6;have n7:=S2.froz 7;have n8:=S2.froz 8;have n9:=S2.froz 9;have n10:=S2.froz 10;have n11:=S2.froz 11;have HS2:=kH S2;clear S2 hb2)
         all_goals
           go_wp2_with fail
           go_meet
           exact (HS2.out.sigs_set a0 a1 a2 a3 a4 a5 a6 a7 HVA.out).sw
       case rest =>
         have HS3:=kH hcut.sw
         have e12:=hcut.sw.cell 12
         have f12:=hcut.sw.froz 12
         have b0':=hcut.cell 0
         simp only [bakA,bakMd,bakIn,gA,gZ,gS] at e12 b0'
         have hbx:=hcut.ne01
         generalize hmk:mostOf (l.take k)=mk at *
         have HMK:=kH hmk
         clear hcut hmk b0 l4 l5 l6 l7 l8 l9 l10 l11
         by_cases hmc:mk < cc
         · have HMC:=kH hmc
           go_wp2_with fail
           go_region
           all_goals
             go_wp2_with fail
             go_roundg (n - (k+1))
             case measure=>have:=HNN.out;omega
             case rel =>
               refine ⟨k+1,by omega,by go_num,by have:=HNN.out;omega,?_⟩
               have h:=(HS3.out.set 12 (.int .i64 cc)).sw.drop
               have e:bakO x lv (bakIn ring multi stamp l (k+1))=.cells ((bakA x lv (bakMd ring multi stamp l k)).setIfInBounds 12 (.int .i64 cc)) 216 (0,0):=by
                 unfold bakO bakA bakMd bakIn
                 rw [HT2.out,if_pos HMC.out]
                 rfl
               rw [e]
               first | exact h | exact h.drew | (rw [show max mk cc=cc by have:=HMC.out;omega];first | exact h | exact h.drew)
         · have HMC:=kH hmc
           go_wp2_with fail
           go_region
           all_goals
             go_wp2_with fail
             go_roundg (n - (k+1))
             case measure=>have:=HNN.out;omega
             case rel =>
               refine ⟨k+1,by omega,by go_num,by have:=HNN.out;omega,?_⟩
               have h:=(HS3.out.set 12 (.int .i64 mk)).sw.drop
               have e:bakO x lv (bakIn ring multi stamp l (k+1))=.cells ((bakA x lv (bakMd ring multi stamp l k)).setIfInBounds 12 (.int .i64 mk)) 216 (0,0):=by
                 unfold bakO bakA bakMd bakIn
                 rw [HT2.out,if_neg (show ¬ mk < cc by have:=HMC.out;omega)]
                 rfl
               rw [e]
               first | exact h | exact h.drew | (rw [show max mk cc=mk by have:=HMC.out;omega];first | exact h | exact h.drew)
     · have hke:k=n:=by omega
       subst hke
       have c1:=S.cell2 1
       have c4:=S.cell2 4
       have e17:=S.cell 17
       have e18:=S.cell 18
       have f17:=S.froz 17
       have f18:=S.froz 18
       simp only [bakA,bakIn,gA,gZ,gS,nextV] at c1 c4 e17 e18
       have hfin:∀ kn:Bool,kn=decide (multi=false∨ring=1∨stamp=1)→bakO x lv (newBak ring multi stamp l)=.cells (((bakA x lv (bakIn ring multi stamp l k)).setIfInBounds 17 (.bool kn)).setIfInBounds 18 (mval 119 x)) 216 (0,0):=fun kn hkn=>by
         have e1:l.take k=l:=List.take_of_length_le (by rw [HN.out];exact Nat.le_refl _)
         unfold bakO bakA bakIn newBak
         rw [e1,← hkn]
         rfl
       have HFIN:=kH hfin
       clear hfin hn S
       cases multi
       · go_wp2
         go_ret2
         first | refine ⟨x,lv,rfl,?_⟩ | refine ⟨x,rfl,lv,?_⟩
         rw [HFIN.out true (by simp)]
         exact (((HSR.out.set 17 (.bool true)).set 18 (mval 119 x)).f2.drop)
       · by_cases h1:ring=1
         · have h1':(ring == 1)=true:=by simpa using h1
           have H1:=kH h1
           clear h1
           go_wp2
           go_ret2
           first | refine ⟨x,lv,rfl,?_⟩ | refine ⟨x,rfl,lv,?_⟩
           rw [HFIN.out true (by simp [H1.out])]
           exact (((HSR.out.set 17 (.bool true)).set 18 (mval 119 x)).f2.drop)
         · have h1':(ring == 1)=false:=by simpa using h1
           have H1:=kH h1
           clear h1
           go_wp2
           go_ret2
           first | refine ⟨x,lv,rfl,?_⟩ | refine ⟨x,rfl,lv,?_⟩
           rw [HFIN.out (stamp == 1) (by have:=H1.out;by_cases h:stamp=1 <;> simp [h,this])]
           exact (((HSR.out.set 17 (.bool (stamp == 1))).set 18 (mval 119 x)).f2.drop)
end
end Go.Proofs.YtgfogfciobmmpaaGreatDoor
