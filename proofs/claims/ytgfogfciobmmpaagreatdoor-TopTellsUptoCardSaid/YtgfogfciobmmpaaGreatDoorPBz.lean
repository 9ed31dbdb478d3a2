/- A part of the proof of the law TopTells: Made MemN Refu NewW NewX. -/
import Derived.Test.YtgfogfciobmmpaaGreatDoorPBy
import Derived.Deep.RegionLaw
import Derived.Deep.CutRange
import Derived.Deep.RegionHeld3
set_option linter.unusedSimpArgs false
set_option linter.unusedVariables false
set_option maxRecDepth 100000
set_option maxHeartbeats 8000000
namespace Go.Proofs.YtgfogfciobmmpaaGreatDoor
section
open Go.RowKit
variable {w w0:World} {X:List Nat} {As Bs Cs:List Comp} {W:World}
theorem Sep.rebase (S:Sep w X (As++Bs) W):Sep W (feet As) As W∧∀ c∈Bs,∀ W',Kept (feet As) W W'→c.holds W':=by
 have ha:=S.apart
 rw [feet_append,List.nodup_append] at ha
 obtain ⟨n1,n2,n3⟩:=ha
 refine ⟨sep_start (fun c hc=>S.holds c (List.mem_append.2 (.inl hc))) n1,fun c hc W' hk=>?_⟩
 have hx:∀ x∈c.foot,x∈feet Bs:=fun x hx=>mem_feet.2 ⟨c,hc,hx⟩
 refine c.loc W W' (fun x hxc=>hk.block x (S.lt x (by rw [feet_append];exact List.mem_append.2 (.inr (hx x hxc)))) fun hy=>n3 x hy x (hx x hxc) rfl) (S.holds c (List.mem_append.2 (.inr hc)))
structure ThrN where
 tb:Nat
 jv:Value
 jl:List (Int×List Int×Value)
def st0 (jv:Value):ST:=⟨jv,.pointer none,0,0,0,.slice none 0 0,0,0⟩
def thrA (t:ThrN):List Comp:=[cBlk t.tb (stO (st0 t.jv)),cRow 74 3 (.slice none 0 0) 0 []]
def thrB (t:ThrN):List Comp:=cRow 68 2 t.jv t.jl.length (jobC t.jl)::jobsC t.jl
def thr0:ThrN:=⟨0,.slice none 0 0,[]⟩
theorem flat_list (g:ThrN→List Comp) (l:List ThrN):flat (fun i=>g (l.getD i thr0)) l.length=l.flatMap g:=by
 have h:∀ n,n≤l.length→flat (fun i=>g (l.getD i thr0)) n=(l.take n).flatMap g:=by
   intro n
   induction n with
   | zero=>intro;simp [flat]
   | succ n ih =>
     intro hn
     show flat _ n++g (l.getD n thr0)=_
     rw [ih (by omega),List.take_succ_eq_append_getElem (by omega),List.flatMap_append]
     congr 1
     rw [List.getD_eq_getElem?_getD,List.getElem?_eq_getElem (by omega)]
     simp
 have:=h l.length (Nat.le_refl _)
 rwa [List.take_length] at this
def wd0 (m:MemD) (n:Nat):WD:=⟨m,List.replicate n ⟨none,0,0,0⟩,[],0,0⟩
def fixOf (wb mp:Nat) (tv:Value) (c:Plc.Cfg) (rs:List (Int×Int)) (rv pv:Value) (progs:List ByteArray) (l:List ThrN):FixW:=⟨wb,mp,tv,l.map (·.tb),c,rs,rv,pv,progs,l.map (·.jv),l.map (·.jl)⟩
theorem wat_start {wb mp:Nat} {tv rv pv:Value} {c:Plc.Cfg} {rs:List (Int×Int)} {progs:List ByteArray} {l:List ThrN} {m:MemD} {F:List Nat}
   (S:Sep w [] ((cMem mp m 0 F::cBlk wb (swO ((fixOf wb mp tv c rs rv pv progs l).sw (.slice none 0 0) 0 0))::cEv (.slice none 0 0) []::l.flatMap thrA) ++
     (cRow 60 1 tv l.length (l.map fun t=>ptr t.tb)::cRow 90 2 rv rs.length (regC rs)::cRow 9 1 pv progs.length (progs.map .string)::l.flatMap thrB)) W)
   (hw:0 < w.heap.size) (hE:Plc.checkE c rs=0) (hp:∀ p∈progs,p.size≤512) (hpn:progs.length≤16) (hln:l.length≤8) (hjn:∀ t∈l,t.jl.length≤32)
   (hj:∀ t∈l,∀ j∈t.jl,(0≤j.1∧j.1 < progs.length)∧j.2.1.length≤4∧(∀ z∈j.2.1,I64 z)) (ht:Cod.Tabled w) (hm:m.ring=c.ring) (hcl:(m.cells.length:Int)=c.raw+Plc.sumSz rs rs.length) :
   ∃ X',(∀ x∈X',w.heap.size≤x)∧FixOk W X' (fixOf wb mp tv c rs rv pv progs l)∧WAt W X' (fixOf wb mp tv c rs rv pv progs l) [] 0 (wd0 m l.length) W:=by
 obtain ⟨S1,hB⟩:=S.rebase
 have hX:∀ x∈feet (cMem mp m 0 F::cBlk wb (swO ((fixOf wb mp tv c rs rv pv progs l).sw (.slice none 0 0) 0 0))::cEv (.slice none 0 0) []::l.flatMap thrA),w.heap.size≤x:=fun x hx=>by
   rcases S.src x (by rw [feet_append];exact List.mem_append.2 (.inl hx)) with h | h
   · simp at h
   · exact h
 have hmem:=S1.h0
 have hBt:=fun t (ht:t∈l) c (hc:c∈thrB t)=>hB c (List.mem_cons_of_mem _ (List.mem_cons_of_mem _ (List.mem_cons_of_mem _ (List.mem_flatMap.2 ⟨t,ht,hc⟩))))
 have hget:∀ {i:Nat} {α:Type} {g:ThrN→α} {y:α},(l.map g)[i]?=some y→∃ t,l[i]?=some t∧g t=y:=fun {i α g y} h=>by
   rw [List.getElem?_map] at h
   cases hl:l[i]? with
   | none=>rw [hl] at h;simp at h
   | some t=>rw [hl] at h;exact ⟨t,rfl,by simpa using h⟩
 refine ⟨_,hX,⟨hE,?_,?_,?_,hp,hpn,?_,⟨?_,?_⟩,?_,?_,?_,?_⟩,?_⟩
 · intro W' hk
   have h1:=hB _ List.mem_cons_self W' hk
   have e1:(fixOf wb mp tv c rs rv pv progs l).tbs.length=l.length:=by simp [fixOf]
   have e2:(fixOf wb mp tv c rs rv pv progs l).tbs.map ptr=l.map fun t=>ptr t.tb:=by simp [fixOf]
   rw [e1,e2]
   exact h1
 · exact fun W' hk=>hB _ (List.mem_cons_of_mem _ List.mem_cons_self) W' hk
 · exact fun W' hk=>hB _ (List.mem_cons_of_mem _ (List.mem_cons_of_mem _ List.mem_cons_self)) W' hk
 · simpa [fixOf] using hln
 · simp [fixOf]
 · simp [fixOf]
 · intro i jl v h1 h2
   obtain ⟨t,ht1,rfl⟩:=hget h1
   obtain ⟨t',ht2,rfl⟩:=hget h2
   obtain rfl:t=t':=by rw [ht1] at ht2;simpa using ht2
   exact ⟨hjn t (List.mem_of_getElem? ht1),fun W' hk=>hBt t (List.mem_of_getElem? ht1) _ List.mem_cons_self W' hk⟩
 · intro jl hjl j hjm
   obtain ⟨t,ht,rfl⟩:=List.mem_map.1 hjl
   obtain ⟨h1,h2,h3⟩:=hj t ht j hjm
   exact ⟨h1,h2,h3,fun W' hk=>hBt t ht (cI j.2.2 j.2.1) (List.mem_cons_of_mem _ (List.mem_map.2 ⟨j,hjm,rfl⟩)) W' hk⟩
 · exact ht.below hw S.kept.below
 · intro h0
   have:=hX 0 h0
   omega
 · refine ⟨.slice none 0 0,0,F,fun i=>thrA (l.getD i thr0),?_,by simp [wd0,fixOf],hcl,⟨hmem.ok,hm,?_⟩,?_,Nat.zero_le _,by simp [wd0],by simp [wd0],by simp [wd0]⟩
   · have e1:(fixOf wb mp tv c rs rv pv progs l).tbs.length=l.length:=by simp [fixOf]
     rw [e1,flat_list,List.append_nil]
     exact S1
   · intro t ht j hj
     simp only [wd0,List.mem_replicate] at ht
     rw [ht.2] at hj
     simp at hj
   · intro i t hi
     simp only [wd0,List.getElem?_replicate] at hi
     split at hi
     · rename_i hil
       injection hi with hi
       subst hi
       have hg:l[i]?=some (l[i]):=List.getElem?_eq_getElem hil
       refine ⟨l[i].tb,st0 l[i].jv,[],[],?_,?_,?_,rfl,rfl,by simp [st0],by simp [st0],Nat.zero_le _,rfl,rfl⟩
       · simp [fixOf,hil]
       · simp [fixOf,hil,st0]
       · show thrA (l.getD i thr0)=_
         rw [getD_of hg]
         rfl
     · simp at hi
end
section
open Go.RowKit
variable {w0:World} {X:List Nat} {Cs:List Comp} {w:World}
def mem0 (n r:Nat):MemD:=⟨0,List.replicate r 1,List.replicate (8 * r) 0,List.replicate n 0⟩
theorem mem0_ok {n r:Nat} (hn:1≤n∧n≤1024) (hr:1≤r∧r≤16):MemOk (mem0 n r):=by
 unfold mem0
 refine ⟨by unfold I64;dsimp only;omega,by simpa using hr,by simp,by simpa using hn,?_,?_,?_⟩ <;>
 · intro x hx
   have:=List.eq_of_mem_replicate hx
   unfold I64
   omega
theorem infoI64M:(Tryz.prog.info? 2).map (fun i=>(i.zero,i.size,i.bytes))=some (some (.int .i64 0),1,8):=by kernel_rfl
theorem infoSigM:(Tryz.prog.info? 278).map (fun i=>(i.zero,i.size,i.bytes))=some (some (.agg #[.int .i64 0,.int .i64 0,.int .i64 0,.int .i64 0,.int .i64 0,.int .i64 0,.int .i64 0,.int .i64 0]),8,64):=by kernel_rfl
theorem made_ints' (n:Nat):madeCells #[.int .i64 0] n=intsA (List.replicate n 0):=by
 apply Array.ext'
 rw [toList_madeCells_one]
 simp [intsA]
theorem mk_i64 (n:Nat) (hn:n≤2000) (w:World):(Instr.makeSlice 66 (.int .i64 (n:Int)) (.int .i64 (n:Int))).run Tryz.prog w=.ok (.slice (some ⟨w.heap.size,0,none⟩) n n) (w.alloc (.cells (intsA (List.replicate n 0)) 2)):=by
 obtain ⟨i0,hi,hz0,hz1,hz2⟩:=info_parts infoI64M
 have h:=run_make (P:=Tryz.prog) (w:=w) 66 2 i0 (.int .i64 0) Tryz.underlying66 hi hz0 .i64 .i64 n n (by omega) (by omega) (by rw [hz2];omega) (by omega)
 rw [hz1,Int.toNat_natCast,Nat.mul_one] at h
 rw [← made_ints']
 exact h
theorem made8 (n:Nat):madeCells #[.int .i64 0,.int .i64 0,.int .i64 0,.int .i64 0,.int .i64 0,.int .i64 0,.int .i64 0,.int .i64 0] n=intsA (List.replicate n 0):=by
 apply Array.ext
 · simp [madeCells,intsA]
 · intro i h1 h2
   have h8:i % 8 < 8:=Nat.mod_lt _ (by decide)
   simp only [madeCells,intsA,Array.getElem_map,Array.getElem_range,List.getElem_toArray,List.getElem_map,List.getElem_replicate]
   show (#[.int .i64 0,.int .i64 0,.int .i64 0,.int .i64 0,.int .i64 0,.int .i64 0,.int .i64 0,.int .i64 0]:Array Value)[i % 8]! = _
   generalize i % 8=q at h8
   rcases (show q=0∨q=1∨q=2∨q=3∨q=4∨q=5∨q=6∨q=7 by omega) with rfl | rfl | rfl | rfl | rfl | rfl | rfl | rfl <;> rfl
theorem mk_sigs (n:Nat) (hn:n≤2000) (w:World):(Instr.makeSlice 117 (.int .i64 (n:Int)) (.int .i64 (n:Int))).run Tryz.prog w=.ok (.slice (some ⟨w.heap.size,0,none⟩) n n) (w.alloc (.cells (intsA (List.replicate (8 * n) 0)) 278)):=by
 obtain ⟨i0,hi,hz0,hz1,hz2⟩:=info_parts infoSigM
 have h:=run_make (P:=Tryz.prog) (w:=w) 117 278 i0 _ Tryz.underlying117 hi hz0 .i64 .i64 n n (by omega) (by omega) (by rw [hz2];omega) (by omega)
 rw [hz1,Int.toNat_natCast] at h
 rw [← made8,Nat.mul_comm 8 n]
 exact h
def memO (n r hb sb cb:Nat):Obj:=.cells #[.int .i64 0,.slice (some ⟨hb,0,none⟩) r r,.slice (some ⟨sb,0,none⟩) r r,.slice (some ⟨cb,0,none⟩) n n,.slice none 0 0] 120 (0,0)
theorem sep_four (hS:Sep w0 X Cs w) (o1 o2 o3 o4:Obj):Sep w0 X (cBlk (w.heap.size+1+1+1) o4::cBlk (w.heap.size+1+1) o3::cBlk (w.heap.size+1) o2::cBlk w.heap.size o1::Cs) (((((w.alloc o1).alloc o2).alloc o3).alloc o4).drew):=by
 have h:=(((hS.new o1).new o2).new o3).new o4
 have e1:(w.alloc o1).heap.size=w.heap.size+1:=by simp
 have e2:((w.alloc o1).alloc o2).heap.size=w.heap.size+1+1:=by simp
 have e3:(((w.alloc o1).alloc o2).alloc o3).heap.size=w.heap.size+1+1+1:=by simp
 rw [e1,e2,e3] at h
 exact h.drew
theorem mem_of_four {p hb sb cb n r:Nat} (hn:1≤n∧n≤1024) (hr:1≤r∧r≤16) (h:Sep w0 X (cBlk p (memO n r hb sb cb)::cBlk hb (.cells (intsA (List.replicate r 1)) 2 (0,0))::cBlk sb (.cells (intsA (List.replicate (8 * r) 0)) 278 (0,0))::cBlk cb (.cells (intsA (List.replicate n 0)) 2 (0,0))::Cs) w) :
   Sep w0 X (cMem p (mem0 n r) 0 [p,hb,sb,cb]::Cs) w:=by
 have ha:=h.apart
 have hh:=h.holds
 refine ⟨h.kept,fun c hc=>?_,?_,fun x hx=>h.src x ?_⟩
 · rcases List.mem_cons.1 hc with rfl | hc
   · refine ⟨hb,sb,cb,.slice none 0 0,by simp [rowF],⟨?_,?_,?_,?_,⟨0,[],Nat.le_refl _,rowAt_nil _ _ _⟩,?_,mem0_ok hn hr⟩⟩
     · have h0:w.heap[p]?=some (memO n r hb sb cb):=h.h0
       rw [h0]
       simp [memO,mem0]
     · exact h.h1
     · exact h.h2
     · exact h.h3
     · have h2:=ha
       simp only [feet,cBlk,List.flatMap_cons,List.singleton_append] at h2
       have h3:([p,hb,sb,cb]++feet Cs).Nodup:=h2
       simpa [rowF] using (List.nodup_append.1 h3).1
   · exact hh c (List.mem_cons_of_mem _ (List.mem_cons_of_mem _ (List.mem_cons_of_mem _ (List.mem_cons_of_mem _ hc))))
 · exact ha
 · exact hx
def fil (r k:Nat):List Int:=List.replicate k 1++List.replicate (r - k) 0
theorem fil_set {r k:Nat} (h:k < r):(fil r k).set k 1=fil r (k+1):=by
 unfold fil
 rw [List.set_append_right _ _ (by simp),List.length_replicate,Nat.sub_self,List.replicate_succ',List.append_assoc]
 congr 1
 obtain ⟨d,hd⟩:∃ d,r - k=d+1:=⟨r - k - 1,by omega⟩
 rw [hd,show r - (k+1)=d by omega,List.replicate_succ,List.set_cons_zero]
 rfl
theorem fil_len {r k:Nat} (h:k≤r):(fil r k).length=r:=by
 unfold fil
 simp
 omega
theorem New_mem (hS:Sep w0 X Cs w) (n r:Nat) (hn:1≤n∧n≤1024) (hr:1≤r∧r≤16) :
   Calls Tryz.prog 32 #[.int .i64 (n:Int),.int .i64 (r:Int)] w (fun e w'=>∃ p F,e=.returned (.tuple #[ptr p,.int .i64 0])∧Sep w0 X (cMem p (mem0 n r) 0 F::Cs) w'):=by
 have hmk1:=fun w=>mk_i64 r (by omega) w
 have hmk2:=fun w=>mk_i64 n (by omega) w
 have hmk3:=fun w=>mk_sigs r (by omega) w
 have q1:¬ (n:Int) < 1:=by omega
 have q2:¬ (1024:Int) < (n:Int):=by omega
 have q3:¬ (r:Int) < 1:=by omega
 have q4:¬ (16:Int) < (r:Int):=by omega
 have HS:=kH hS
 have HNR:=kH (And.intro hn hr)
 clear hS hn hr
 go_enter Tryz.func32,Tryz.ntmps32
 go_wp2_with fail
 go_cut [6] from 8 to 45 (fun v6 wc=>∃ p hb sb cb,v6=.pointer (some ⟨p,0,none⟩)∧Sep w0 X (cBlk p (memO n r hb sb cb)::cBlk hb (.cells (intsA (List.replicate r 0)) 2 (0,0))::cBlk sb (.cells (intsA (List.replicate (8 * r) 0)) 278 (0,0))::cBlk cb (.cells (intsA (List.replicate n 0)) 2 (0,0))::Cs) wc)
 case first =>
   have H4:=kH (fun o1 o2 o3 o4=>sep_four HS.out o1 o2 o3 o4)
   go_region
   all_goals
     go_wp2
     go_meet
     case rel =>
       first
         | exact ⟨_,_,_,_,rfl,H4.out _ _ _ _⟩
         | exact ⟨_,_,_,_,rfl,(H4.out _ _ _ _).perm ((List.Perm.swap _ _ _).cons _)⟩
         | exact ⟨_,_,_,_,rfl,(H4.out _ _ _ _).perm (((List.Perm.swap _ _ _).cons _).cons _)⟩
         | exact ⟨_,_,_,_,rfl,((H4.out _ _ _ _).perm (((List.Perm.swap _ _ _).cons _).cons _)).perm ((List.Perm.swap _ _ _).cons _)⟩
         | exact ⟨_,_,_,_,rfl,((H4.out _ _ _ _).perm ((List.Perm.swap _ _ _).cons _)).perm (((List.Perm.swap _ _ _).cons _).cons _)⟩
         | exact ⟨_,_,_,_,rfl,(((H4.out _ _ _ _).perm ((List.Perm.swap _ _ _).cons _)).perm (((List.Perm.swap _ _ _).cons _).cons _)).perm ((List.Perm.swap _ _ _).cons _)⟩
 case rest =>
   obtain ⟨p,hb,sb,cb,rfl,S⟩:=hcut
   have k1:=S.cell 1
   simp only [gA,gZ,gS] at k1
   have hltp:=heap_lt S.h0
   have HS1:=kH S
   clear S HS
   go_wp2
   go_loopg [35] (r+1) (fun nn v35 wr=>∃ k:Nat,k≤r∧v35=.int .i64 k∧nn+k=r+1∧Sep w0 X (cBlk p (memO n r hb sb cb)::cBlk hb (.cells (intsA (fil r k)) 2 (0,0))::cBlk sb (.cells (intsA (List.replicate (8 * r) 0)) 278 (0,0))::cBlk cb (.cells (intsA (List.replicate n 0)) 2 (0,0))::Cs) wr)
   case atStart=>exact ⟨0,Nat.zero_le _,rfl,rfl,HS1.out⟩
   case round =>
     obtain ⟨k,hk,rfl,hn,S⟩:=hrel
     have HN:=kH hn
     have k1:=S.cell 1
     simp only [gA,gZ,gS] at k1
     have hltp:=heap_lt S.h0
     have hlth:=heap_lt S.h1
     have HS2:=kH S
     have hkr:(k:Int)≤(r:Int):=by omega
     clear hn HS1
     by_cases hlt:k < r
     · have hlt':(k:Int) < (r:Int):=by omega
       have hh:=(S.cell1 k).trans (intsA_at _ k (by rw [fil_len hk];exact hlt))
       have hf:=S.froz1 k
       clear S
       go_wp2
       go_roundg (r - k)
       case measure=>have:=HN.out;omega
       case rel =>
         refine ⟨k+1,by omega,by go_num,by have:=HN.out;omega,?_⟩
         rw [← fil_set hlt,← intsA_set]
         exact HS2.out.set1 k (.int .i64 1)
     · obtain rfl:k=r:=by omega
       clear S
       go_wp2
       go_ret2
       refine ⟨p,[p,hb,sb,cb],rfl,mem_of_four HNR.out.1 HNR.out.2 ?_⟩
       have h:=HS2.out
       have e:fil k k=List.replicate k 1:=by simp [fil]
       rw [e] at h
       exact h
end
section
open Go.RowKit
theorem pairs_at:∀ (l:List (Int×Int)) (j:Nat),j < l.length→(l.flatMap fun r=>[Value.int .i64 r.1,.int .i64 r.2])[j * 2]?=some (.int .i64 (l.getD j (0,0)).1)∧(l.flatMap fun r=>[Value.int .i64 r.1,.int .i64 r.2])[j * 2+1]?=some (.int .i64 (l.getD j (0,0)).2)
 | [],j,h=>by simp at h
 | r::l,0,_=>⟨rfl,rfl⟩
 | r::l,j+1,h=>by
   have ih:=pairs_at l j (by simpa using h)
   rw [List.flatMap_cons,show (j+1) * 2=j * 2+1+1 by omega]
   exact ⟨by simpa using ih.1,by simpa using ih.2⟩
theorem readsR_of {w:World} {B:Nat} {v:Value} {rs:List (Int×Int)} (h:ReadsV w B v rs.length 2 (rs.flatMap fun r=>[.int .i64 r.1,.int .i64 r.2])) (hn:rs.length≤8796093021952):Plc.ReadsR w B v rs:=by
 obtain ⟨-,a,c,h1,h2,h3,h4⟩:=h
 refine ⟨hn,a,c,h1,h2,by unfold maxLen at h3;omega,?_⟩
 rcases h4 with h4 | ⟨b,off,h5,h6,h7⟩
 · exact .inl (List.eq_nil_of_length_eq_zero h4)
 · refine .inr ⟨b,off,h5,h6,fun i hi=>?_⟩
   obtain ⟨k1,k2⟩:=pairs_at rs i hi
   exact ⟨h7 _ _ k1,by rw [Nat.add_assoc];exact h7 _ _ k2⟩
def refE (s:SetD):Int:=if Plc.checkE s.c s.rs=0 then (if mayB s.progs s.tl=true then 0 else 1) else Plc.checkE s.c s.rs
theorem ref_config (w:World) (s:SetD) (hs:SetupR w w.heap.size s) (hE:Plc.checkE s.c s.rs≠0):Calls Tryz.prog 17 #[s.val] w (fun e w'=>e=.returned (.int .i64 (refE s))∧Below w.heap.size w w'):=by
 have hv:refE s=Plc.checkE s.c s.rs:=by unfold refE;rw [if_neg hE]
 rw [hv]
 have HC:=kH (fun o=>Plc.RefCheck_calls (w.alloc o) w.heap.size s.c s.rv s.rs ((readsR_of hs.regs.1 (by have:=hs.regs.2;omega)).below (below_alloc w o)) (by simp))
 obtain ⟨c,rv,rs,pv,progs,tv,tl⟩:=s
 dsimp only at hE HC
 generalize Plc.checkE c rs=E at *
 have HE:=kH hE
 have hE':(E == 0)=false:=by simp [hE]
 unfold Plc.Cfg.val Plc.Cfg.cells Gives at HC
 unfold SetD.val
 dsimp only
 clear hv hE hs
 go_enter Tryz.func17,Tryz.ntmps17
 go_wp2_with fail
 refine (HC.out _).mono ?_
 rintro e w1 ⟨rfl,hb1⟩
 go_wp2
 go_ret
 exact ⟨rfl,(below_alloc _ _).trans (hb1.mono (by simp))⟩
theorem ref_few (w:World) (s:SetD) (hs:SetupR w w.heap.size s) (hE:Plc.checkE s.c s.rs=0) (hn:¬ (s.tl.length≤8∧s.progs.length≤16)):Calls Tryz.prog 17 #[s.val] w (fun e w'=>e=.returned (.int .i64 (refE s))∧Below w.heap.size w w'):=by
 have hv:refE s=1:=by unfold refE;rw [if_pos hE,may_many hn];rfl
 rw [hv]
 have HC:=kH (fun o=>Plc.RefCheck_calls (w.alloc o) w.heap.size s.c s.rv s.rs ((readsR_of hs.regs.1 (by have:=hs.regs.2;omega)).below (below_alloc w o)) (by simp))
 rw [hE] at HC
 obtain ⟨-,pa,pc,hpv,-⟩:=hs.progs.1
 obtain ⟨-,ta,tc,htv,-⟩:=hs.thr.1
 obtain ⟨c,rv,rs,pv,progs,tv,tl⟩:=s
 dsimp only at hpv htv hn HC
 subst hpv htv
 unfold Plc.Cfg.val Plc.Cfg.cells Gives at HC
 unfold SetD.val
 dsimp only
 have hz:(8:Int) < (tl.length:Int)∨((tl.length:Int)≤8∧(16:Int) < (progs.length:Int)):=by omega
 clear hs hE hn hv
 go_enter Tryz.func17,Tryz.ntmps17
 go_wp2_with fail
 refine (HC.out _).mono ?_
 rintro e w1 ⟨rfl,hb1⟩
 have hC:=box_keep' hb1 (heap_new (w:=w) rfl)
 have q7:=cell_of_row w1 w.heap.size 7 _ _ _ hC
 have q8:=cell_of_row w1 w.heap.size 8 _ _ _ hC
 simp only [gA,gZ,gS] at q7 q8
 have hlt:=heap_lt hC
 have HB:=kH ((below_alloc w _).trans (hb1.mono (by simp)))
 clear hb1 hC HC
 rcases hz with z | ⟨z0,z⟩
 · go_wp2
   go_ret
   exact ⟨rfl,HB.out⟩
 · go_wp2
   go_ret
   exact ⟨rfl,HB.out⟩
theorem ref_loops (w:World) (s:SetD) (hs:SetupR w w.heap.size s) (hE:Plc.checkE s.c s.rs=0) (hn:s.tl.length≤8∧s.progs.length≤16):Calls Tryz.prog 17 #[s.val] w (fun e w'=>e=.returned (.int .i64 (refE s))∧Below w.heap.size w w'):=by
 have hv:refE s=if mayB s.progs s.tl=true then 0 else 1:=by unfold refE;rw [if_pos hE]
 rw [hv]
 have HC:=kH (fun o=>Plc.RefCheck_calls (w.alloc o) w.heap.size s.c s.rv s.rs ((readsR_of hs.regs.1 (by have:=hs.regs.2;omega)).below (below_alloc w o)) (by simp))
 rw [hE] at HC
 clear hv hE
 obtain ⟨hn1,hn2⟩:=hn
 obtain ⟨-,pa,pc,hpv,hpc,-,hpr⟩:=hs.progs.1
 obtain ⟨-,ta,tc,htv,htc,-,htr⟩:=hs.thr.1
 have hea:=kH hs.each
 have HMP:=kH (fun k p (h1:s.progs[k]?=some p) h2=>may_prog (tl:=s.tl) h1 h2)
 have HMT:=kH (fun k t (h1:s.tl[k]?=some t) h2=>may_thr (progs:=s.progs) h1 h2)
 have HMJ:=kH (fun k q t j (h1:s.tl[k]?=some t) (h2:t.2[q]?=some j) h3=>may_job (progs:=s.progs) h1 h2 h3)
 have HMA:=kH (fun h2 h3=>may_all (progs:=s.progs) (tl:=s.tl) ⟨hn1,hn2⟩ h2 h3)
 obtain ⟨c,rv,rs,pv,progs,tv,tl⟩:=s
 dsimp only at hpv htv hn1 hn2 hpr htr hpc htc hea HMP HMT HMJ HMA HC
 subst hpv htv
 clear hs
 generalize mayB progs tl=E at *
 have HV0:Hid (E=false→(if E=true then (0:Int) else 1)=1):=fun h=>by rw [h];rfl
 have HV1:Hid (E=true→(if E=true then (0:Int) else 1)=0):=fun h=>by rw [h];rfl
 obtain ⟨V,hV⟩:∃ V:Int,(if E=true then (0:Int) else 1)=V:=⟨_,rfl⟩
 rw [hV] at HV0 HV1 ⊢
 clear hV
 unfold Plc.Cfg.val Plc.Cfg.cells Gives at HC
 have HPR:=kH hpr
 have HTR:=kH htr
 clear hpr htr
 have hn1':(tl.length:Int)≤8:=by omega
 have hn2':(progs.length:Int)≤16:=by omega
 unfold SetD.val
 dsimp only
 obtain ⟨np,hnp⟩:∃ n,progs.length=n:=⟨_,rfl⟩
 obtain ⟨nt,hnt⟩:∃ n,tl.length=n:=⟨_,rfl⟩
 rw [hnp] at hpc hn2 hn2' HPR ⊢
 rw [hnt] at htc hn1 hn1' HTR ⊢
 have HNP:=kH hnp
 have HNT:=kH hnt
 clear hnp hnt
 go_enter Tryz.func17,Tryz.ntmps17
 go_wp2_with fail
 refine (HC.out _).mono ?_
 rintro e w1 ⟨rfl,hb1⟩
 have hC1:=box_keep' hb1 (heap_new (w:=w) rfl)
 have p7:=cell_of_row w1 w.heap.size 7 _ _ _ hC1
 have p8:=cell_of_row w1 w.heap.size 8 _ _ _ hC1
 simp only [gA,gZ,gS] at p7 p8
 have hlt1:=heap_lt hC1
 have HC1:=kH hC1
 have HB1:=kH ((below_alloc w _).trans (hb1.mono (by simp)))
 clear hb1 hC1 HC
 go_wp2
 go_loopg [4] (np+1) (fun n v22 wr=>∃ (k:Nat),k≤np∧v22=.int .i64 k∧n+k=np+1∧(∀ (q:Nat) (p:ByteArray),q < k→progs[q]?=some p→p.size≤512)∧wr.heap[w.heap.size]?=some (setO ⟨c,rv,rs,.slice pa np pc,progs,.slice ta nt tc,tl⟩)∧Below w.heap.size w wr)
 case atStart=>exact ⟨0,Nat.zero_le _,rfl,rfl,fun q p hq=>by omega,HC1.out,HB1.out⟩
 case round =>
   obtain ⟨k,hk,rfl,hn,hall,hC,bel⟩:=hrel
   have HC:=kH hC
   have q7:=cell_of_row wr w.heap.size 7 _ _ _ hC
   have q8:=cell_of_row wr w.heap.size 8 _ _ _ hC
   simp only [gA,gZ,gS] at q7 q8
   have HN:=kH hn
   have HA:=kH hall
   have hwsz:=heap_lt hC
   have hkn:(k:Int)≤(np:Int):=by omega
   clear hn hall hC p7 p8 hlt1
   by_cases hlt:k < np
   · obtain ⟨p,hp⟩:∃ p,progs[k]?=some p:=⟨progs[k]'(by have:=HNP.out;omega),List.getElem?_eq_getElem _⟩
     rcases HPR.out with h | ⟨b,off,rfl,hbB,hcell⟩
     · omega
     have hc0:=(bel.cell (p:=⟨b,off+k,none⟩) (by simp;omega)).trans (hcell k (.string p) (by rw [List.getElem?_map,hp];rfl))
     have HMP':=kH (HMP.out k p hp)
     have HA':Hid (p.size≤512→∀ (q:Nat) (p:ByteArray),q < k+1→progs[q]?=some p→p.size≤512):=fun h q p' hq hp'=>by
       by_cases e:q=k
       · subst e
         rw [hp] at hp'
         injection hp' with hp'
         subst hp'
         exact h
       · exact HA.out q p' (by omega) hp'
     have hbs:b < wr.heap.size:=by have:=bel.size;omega
     have hlt':(k:Int) < (np:Int):=by omega
     have hpc':(np:Int)≤(pc:Int):=by omega
     clear hcell hp
     by_cases hb:p.size≤512
     · have hb':(p.size:Int)≤512:=by omega
       go_wp2
       go_roundg (np - k)
       case measure=>have:=HN.out;omega
       case rel=>exact ⟨k+1,by omega,by go_num,by omega,HA'.out hb,HC.out,bel⟩
     · have hb':(512:Int) < (p.size:Int):=by omega
       go_wp2
       go_ret
       exact ⟨by rw [HV0.out (HMP'.out (by omega))];rfl,bel⟩
   · obtain rfl:k=np:=by omega
     go_wp2
     go_loopg [5] (nt+1) (fun n v33 ws=>∃ (i:Nat),i≤nt∧v33=.int .i64 i∧n+i=nt+1∧(∀ (q:Nat) (t:Value×List (Int×List Int×Value)),q < i→tl[q]?=some t→t.2.length≤32∧∀ (q2:Nat) (j:Int×List Int×Value),t.2[q2]?=some j→jobB k j=true)∧ws.heap[w.heap.size]?=some (setO ⟨c,rv,rs,.slice pa k pc,progs,.slice ta nt tc,tl⟩)∧Below w.heap.size w ws)
     case atStart=>exact ⟨0,Nat.zero_le _,rfl,rfl,fun q t hq=>by omega,HC.out,bel⟩
     case round =>
       obtain ⟨i,hi,rfl,hn,hall,hC2,bel2⟩:=hrel
       have HC2:=kH hC2
       have q7':=cell_of_row wr w.heap.size 7 _ _ _ hC2
       have q8':=cell_of_row wr w.heap.size 8 _ _ _ hC2
       simp only [gA,gZ,gS] at q7' q8'
       have HN2:=kH hn
       have HA2:=kH hall
       have hwsz2:=heap_lt hC2
       have hin:(i:Int)≤(nt:Int):=by omega
       clear hn hall hC2 q7 q8 hwsz
       by_cases hlt:i < nt
       · obtain ⟨⟨tv',jl⟩,ht⟩:∃ t,tl[i]?=some t:=⟨tl[i]'(by have:=HNT.out;omega),List.getElem?_eq_getElem _⟩
         obtain ⟨⟨-,ja,jc,hjv,hjc,-,hjr⟩,hje,-⟩:=hea.out _ (List.mem_of_getElem? ht)
         dsimp only at hjv hjc hjr hje
         subst hjv
         have HMT':=kH (HMT.out i _ ht)
         have HMJ':=kH (fun q j h2 h3=>HMJ.out i q _ j ht h2 h3)
         have HA2':Hid ((jl.length≤32∧∀ (q2:Nat) (j:Int×List Int×Value),jl[q2]?=some j→jobB k j=true)→∀ (q:Nat) (t:Value×List (Int×List Int×Value)),q < i+1→tl[q]?=some t→t.2.length≤32∧∀ q2 j,t.2[q2]?=some j→jobB k j=true):=fun h q t' hq ht'=>by
           by_cases e:q=i
           · subst e
             rw [ht] at ht'
             injection ht' with ht'
             subst ht'
             exact h
           · exact HA2.out q t' (by omega) ht'
         have HJR:=kH hjr
         have HJE:=kH hje
         obtain ⟨nj,hnj⟩:∃ n,jl.length=n:=⟨_,rfl⟩
         rw [hnj] at hjc HJR HA2'
         have HNJ:=kH hnj
         dsimp only at HMT'
         rw [hnj] at HMT'
         rcases HTR.out with h | ⟨b,off,rfl,hbB,hcell⟩
         · omega
         have HC0:=kH (fun W (hW:Below w.heap.size w W)=>(hW.cell (p:=⟨b,off+i,none⟩) (by simp;omega)).trans (hcell i (.slice ja jl.length jc) (by rw [List.getElem?_map,ht];rfl)))
         rw [hnj] at HC0
         have hc0:=HC0.out _ bel2
         have hbs:b < wr.heap.size:=by have:=bel2.size;omega
         have hlt':(i:Int) < (nt:Int):=by omega
         have htc':(nt:Int)≤(tc:Int):=by omega
         clear hcell ht hnj hjr hje
         by_cases h32:nj≤32
         · have h32':(nj:Int)≤32:=by omega
           go_wp2
           go_loopg [6] (nj+1) (fun n v42 wr=>∃ (q:Nat),q≤nj∧v42=.int .i64 q∧n+q=nj+1∧(∀ (q2:Nat) (j:Int×List Int×Value),q2 < q→jl[q2]?=some j→jobB k j=true)∧wr.heap[w.heap.size]?=some (setO ⟨c,rv,rs,.slice pa k pc,progs,.slice (some ⟨b,off,none⟩) nt tc,tl⟩)∧Below w.heap.size w wr)
           case atStart=>exact ⟨0,Nat.zero_le _,rfl,rfl,fun q j hq=>by omega,HC2.out,bel2⟩
           case round =>
             obtain ⟨q,hq,rfl,hn,hall,hC3,bel3⟩:=hrel
             have HC3:=kH hC3
             have q7'':=cell_of_row wr w.heap.size 7 _ _ _ hC3
             have q8'':=cell_of_row wr w.heap.size 8 _ _ _ hC3
             simp only [gA,gZ,gS] at q7'' q8''
             have HN3:=kH hn
             have HA3:=kH hall
             have hwsz3:=heap_lt hC3
             have hqn:(q:Int)≤(nj:Int):=by omega
             clear hn hall hC3 q7' q8' hwsz2 hc0
             have hc0:=HC0.out _ bel3
             have hbs3:b < wr.heap.size:=by have:=bel3.size;omega
             by_cases hlt2:q < nj
             · obtain ⟨⟨pg,xs,xv⟩,hj⟩:∃ j,jl[q]?=some j:=⟨jl[q]'(by have:=HNJ.out;omega),List.getElem?_eq_getElem _⟩
               obtain ⟨-,-,⟨-,xa,xc,hxv,-⟩,-⟩:=HJE.out _ (List.mem_of_getElem? hj)
               dsimp only at hxv
               subst hxv
               obtain ⟨jat0,jat1⟩:=jobC_at jl q _ hj
               have HMJ2:=kH (HMJ'.out q _ hj)
               have HA3':Hid (jobB k (pg,xs,.slice xa xs.length xc)=true→∀ (q2:Nat) (j:Int×List Int×Value),q2 < q+1→jl[q2]?=some j→jobB k j=true):=fun h q2 j' hq2 hj'=>by
                 by_cases e:q2=q
                 · subst e
                   rw [hj] at hj'
                   injection hj' with hj'
                   subst hj'
                   exact h
                 · exact HA3.out q2 j' (by omega) hj'
               have HDJ:=kH (show (0≤pg∧pg < (k:Int)∧xs.length≤4)↔jobB k (pg,xs,.slice xa xs.length xc)=true by unfold jobB;simp)
               rcases HJR.out with h | ⟨b2,off2,rfl,hbB2,hcell2⟩
               · omega
               have hc1:=(bel3.cell (p:=⟨b2,off2+q * 2,none⟩) (by simp;omega)).trans (hcell2 _ _ jat0)
               have hc2:=(bel3.cell (p:=⟨b2,off2+q * 2+1,none⟩) (by simp;omega)).trans (hcell2 (q * 2+1) _ jat1)
               have hbs2:b2 < wr.heap.size:=by have:=bel3.size;omega
               have hlt2':(q:Int) < (nj:Int):=by omega
               have hjc':(nj:Int)≤(jc:Int):=by omega
               obtain ⟨xn,hxn⟩:∃ n,xs.length=n:=⟨_,rfl⟩
               have HXN:=kH hxn
               rw [hxn] at hc2 HDJ HA3' HMJ2
               clear hcell2 jat0 jat1 hj hxn
               have HB3:=kH (fun o=>box_keep' (below_alloc wr o) HC3.out)
               have HBEL:=kH (fun o=>bel3.trans ((below_alloc wr o).mono bel3.size))
               rcases (show pg < 0∨(0≤pg∧(k:Int)≤pg)∨((0≤pg∧pg < k)∧(4:Int) < xn)∨((0≤pg∧pg < k)∧(xn:Int)≤4) by omega) with z | ⟨z0,z⟩ | ⟨⟨z0,z1⟩,z⟩ | ⟨⟨z0,z1⟩,z⟩
               · have HF:Hid (jobB k (pg,xs,.slice xa xn xc)=false):=by
                   have:=HDJ.out
                   cases hb:jobB k (pg,xs,.slice xa xn xc) with
                   | false=>rfl
                   | true=>have:=this.2 hb;omega
                 go_wp2
                 go_ret
                 exact ⟨by rw [HV0.out (HMJ2.out (by rw [HNP.out];exact HF.out))];rfl,HBEL.out _⟩
               · have HF:Hid (jobB k (pg,xs,.slice xa xn xc)=false):=by
                   have:=HDJ.out
                   cases hb:jobB k (pg,xs,.slice xa xn xc) with
                   | false=>rfl
                   | true=>have:=this.2 hb;omega
                 have z0':¬ pg < 0:=by omega
                 go_wp2
                 go_ret
                 exact ⟨by rw [HV0.out (HMJ2.out (by rw [HNP.out];exact HF.out))];rfl,HBEL.out _⟩
               · have HF:Hid (jobB k (pg,xs,.slice xa xn xc)=false):=by
                   have:=HDJ.out
                   cases hb:jobB k (pg,xs,.slice xa xn xc) with
                   | false=>rfl
                   | true=>have:=this.2 hb;omega
                 have z0':¬ pg < 0:=by omega
                 go_wp2
                 go_ret
                 exact ⟨by rw [HV0.out (HMJ2.out (by rw [HNP.out];exact HF.out))];rfl,HBEL.out _⟩
               · have HF:=kH (HDJ.out.1 ⟨z0,z1,by omega⟩)
                 have z0':¬ pg < 0:=by omega
                 go_wp2
                 go_roundg (nj - q)
                 case measure=>have:=HN3.out;omega
                 case rel=>exact ⟨q+1,by omega,by go_num,by omega,HA3'.out HF.out,HB3.out _,HBEL.out _⟩
             · obtain rfl:q=nj:=by omega
               have HA4:=kH (HA2'.out ⟨h32,fun q2 j hj=>HA3.out q2 j (by have:=(List.getElem?_eq_some_iff.1 hj).1;have:=HNJ.out;omega) hj⟩)
               go_wp2
               go_roundg (nt - i)
               case measure=>have:=HN2.out;omega
               case rel=>exact ⟨i+1,by omega,by go_num,by omega,HA4.out,HC3.out,bel3⟩
         · have h32':(32:Int) < (nj:Int):=by omega
           go_wp2
           go_ret
           exact ⟨by rw [HV0.out (HMT'.out (by omega))];rfl,bel2⟩
       · obtain rfl:i=nt:=by omega
         have HF:=kH (HMA.out (fun q p hp=>HA.out q p (by have:=(List.getElem?_eq_some_iff.1 hp).1;have:=HNP.out;omega) hp) (fun q t ht=>by rw [HNP.out];exact HA2.out q t (by have:=(List.getElem?_eq_some_iff.1 ht).1;have:=HNT.out;omega) ht))
         go_wp2
         go_ret
         exact ⟨by rw [HV1.out HF.out];rfl,bel2⟩
theorem Refuses_calls (w:World) (s:SetD) (hs:SetupR w w.heap.size s):Calls Tryz.prog 17 #[s.val] w (fun e w'=>e=.returned (.int .i64 (refE s))∧Below w.heap.size w w'):=by
 by_cases hE:Plc.checkE s.c s.rs=0
 · by_cases hn:s.tl.length≤8∧s.progs.length≤16
   · exact ref_loops w s hs hE hn
   · exact ref_few w s hs hE hn
 · exact ref_config w s hs hE
end
section
open Go.RowKit
variable {w0:World} {X:List Nat} {Cs:List Comp} {w:World}
theorem sizeStr:∀ w,(Go.sizeOf 9).run Tryz.prog w=.ok 1 w:=fun w=>by kernel_rfl
theorem sizeReg:∀ w,(Go.sizeOf 90).run Tryz.prog w=.ok 2 w:=fun w=>by kernel_rfl
theorem Clone_strs {B:Nat} {v:Value} {ps:List ByteArray} (hS:Sep w0 X Cs w) (hr:ReadsV w B v ps.length 1 (ps.map .string)) (hp:Plain v) (hn:ps.length≤100000) :
   Calls Tryz.prog 33 #[v] w (fun e w'=>∃ v',e=.returned v'∧Sep w0 X (cRow 9 1 v' ps.length (ps.map .string)::Cs) w'):=by
 obtain ⟨a,n,c,rfl,ha⟩:=hp
 obtain ⟨hl,a',c',hv,hc,hcm,hcell⟩:=hr
 injection hv with h1 h2 h3
 subst h1 h2 h3
 obtain ⟨i0,yi,yz0,yz1,yz2⟩:=info_parts infoStrA
 rcases ha with rfl | ⟨b,off,rfl⟩
 · rcases hcell with h | ⟨b,off,h,-⟩
   · refine (Tryz.Clone_str_nil _ _ w).mono ?_
     rintro e w' ⟨rfl,rfl⟩
     have hps:ps=[]:=List.eq_nil_of_length_eq_zero h
     subst hps
     exact ⟨_,rfl,hS.nilRow _ _⟩
   · simp at h
 · refine (Tryz.Clone_str i0 _ 1 16 yi yz0 yz1 yz2 rfl (by decide) sizeStr b off ps.length c (ps.map .string) w hl (by unfold maxLen;omega) (by omega) (fun j u hu=>?_) (strs_one ps)).mono ?_
   · rcases hcell with h | ⟨b',off',h,-,hc'⟩
     · have hps:ps=[]:=List.eq_nil_of_length_eq_zero h
       subst hps
       simp at hu
     · injection h with h
       injection h with h1 h2 _
       subst h1 h2
       exact hc' j u hu
   · rintro e w' ⟨v',rfl,hr,-,hb⟩
     exact ⟨v',rfl,hS.gotRow hb hr⟩
theorem Clone_regs {B:Nat} {v:Value} {rs:List (Int×Int)} (hS:Sep w0 X Cs w) (hr:ReadsV w B v rs.length 2 (rs.flatMap fun r=>[.int .i64 r.1,.int .i64 r.2])) (hp:Plain v) (hn:rs.length≤100000) :
   Calls Tryz.prog 34 #[v] w (fun e w'=>∃ v',e=.returned v'∧Sep w0 X (cRow 90 2 v' rs.length (rs.flatMap fun r=>[.int .i64 r.1,.int .i64 r.2])::Cs) w'):=by
 obtain ⟨a,n,c,rfl,ha⟩:=hp
 obtain ⟨hl,a',c',hv,hc,hcm,hcell⟩:=hr
 injection hv with h1 h2 h3
 subst h1 h2 h3
 obtain ⟨i0,yi,yz0,yz1,yz2⟩:=info_parts infoRegA
 rcases ha with rfl | ⟨b,off,rfl⟩
 · rcases hcell with h | ⟨b,off,h,-⟩
   · refine (Tryz.Clone_reg_nil _ _ w).mono ?_
     rintro e w' ⟨rfl,rfl⟩
     have hps:rs=[]:=List.eq_nil_of_length_eq_zero h
     subst hps
     exact ⟨_,rfl,hS.nilRow _ _⟩
   · simp at h
 · refine (Tryz.Clone_reg i0 _ 2 16 yi yz0 yz1 yz2 rfl (by decide) sizeReg b off rs.length c _ w hl (by unfold maxLen;omega) (by omega) (fun j u hu=>?_) (pairs_one rs)).mono ?_
   · rcases hcell with h | ⟨b',off',h,-,hc'⟩
     · have hps:rs=[]:=List.eq_nil_of_length_eq_zero h
       subst hps
       simp at hu
     · injection h with h
       injection h with h1 h2 _
       subst h1 h2
       exact hc' j u hu
   · rintro e w' ⟨v',rfl,hr,-,hb⟩
     exact ⟨v',rfl,hS.gotRow hb hr⟩
theorem Clone_args {B:Nat} {v:Value} {xs:List Int} (hS:Sep w0 X Cs w) (hr:ReadsV w B v xs.length 1 (ints xs)) (hp:Plain v) (hn:xs.length≤100000) :
   Calls Tryz.prog 35 #[v] w (fun e w'=>∃ v',e=.returned v'∧Sep w0 X (cI v' xs::Cs) w'):=by
 obtain ⟨a,n,c,rfl,ha⟩:=hp
 obtain ⟨hl,a',c',hv,hc,hcm,hcell⟩:=hr
 injection hv with h1 h2 h3
 subst h1 h2 h3
 rcases ha with rfl | ⟨b,off,rfl⟩
 · rcases hcell with h | ⟨b,off,h,-⟩
   · refine (Tryz.Clone_i64_nil _ _ w).mono ?_
     rintro e w' ⟨rfl,rfl⟩
     have hps:xs=[]:=List.eq_nil_of_length_eq_zero h
     subst hps
     exact ⟨_,rfl,hS.nilRow _ _⟩
   · simp at h
 · refine Clone_ints hS b off xs.length c xs rfl (by omega) (fun j u hu=>?_)
   rcases hcell with h | ⟨b',off',h,-,hc'⟩
   · have hps:xs=[]:=List.eq_nil_of_length_eq_zero h
     subst hps
     simp [ints] at hu
   · injection h with h
     injection h with h1 h2 _
     subst h1 h2
     exact hc' j u hu
def NewNo (E:Int) (w:World) (e:Ending) (w':World):Prop:=e=.returned (.tuple #[.pointer none,.int .i64 E])∧Below w.heap.size w w'
theorem New_config (w:World) (s:SetD) (hs:SetupR w w.heap.size s) (hE:Plc.checkE s.c s.rs≠0):Calls Tryz.prog 15 #[s.val] w (NewNo (Plc.checkE s.c s.rs) w):=by
 have HC:=kH (fun o=>Plc.Check_calls (w.alloc o) w.heap.size s.c s.rv s.rs ((readsR_of hs.regs.1 hs.regs.2).below (below_alloc w o)) (by simp))
 obtain ⟨c,rv,rs,pv,progs,tv,tl⟩:=s
 dsimp only at hE HC ⊢
 generalize Plc.checkE c rs=E at *
 have hE':(E == 0)=false:=by simp [hE]
 unfold Plc.Cfg.val Plc.Cfg.cells Gives at HC
 unfold SetD.val
 dsimp only
 clear hE hs
 go_enter Tryz.func15,Tryz.ntmps15
 go_wp2_with fail
 refine (HC.out _).mono ?_
 rintro e w1 ⟨rfl,hb1⟩
 go_wp2
 go_ret2
 exact ⟨rfl,(below_alloc _ _).trans (hb1.mono (by simp))⟩
theorem New_may (w:World) (s:SetD) (hs:SetupR w w.heap.size s) (hE:Plc.checkE s.c s.rs=0) (hm:mayB s.progs s.tl=false):Calls Tryz.prog 15 #[s.val] w (NewNo 1 w):=by
 have HC:=kH (fun o=>Plc.Check_calls (w.alloc o) w.heap.size s.c s.rv s.rs ((readsR_of hs.regs.1 hs.regs.2).below (below_alloc w o)) (by simp))
 rw [hE] at HC
 have HM:=kH (fun W (hb:Below w.heap.size w W) (hsz:w.heap.size≤W.heap.size)=>schMay_calls W s ((hs.below hb).up hsz))
 rw [hm] at HM
 obtain ⟨c,rv,rs,pv,progs,tv,tl⟩:=s
 unfold Plc.Cfg.val Plc.Cfg.cells Gives at HC
 unfold SetD.val at *
 dsimp only at *
 clear hE hs hm
 go_enter Tryz.func15,Tryz.ntmps15
 go_wp2_with fail
 refine (HC.out _).mono ?_
 rintro e w1 ⟨rfl,hb1⟩
 have hC:=box_keep' hb1 (heap_new (w:=w) rfl)
 have q0:=cell_of_row w1 w.heap.size 0 _ _ _ hC
 have q1:=cell_of_row w1 w.heap.size 1 _ _ _ hC
 have q2:=cell_of_row w1 w.heap.size 2 _ _ _ hC
 have q3:=cell_of_row w1 w.heap.size 3 _ _ _ hC
 have q4:=cell_of_row w1 w.heap.size 4 _ _ _ hC
 have q5:=cell_of_row w1 w.heap.size 5 _ _ _ hC
 have q6:=cell_of_row w1 w.heap.size 6 _ _ _ hC
 have q7:=cell_of_row w1 w.heap.size 7 _ _ _ hC
 have q8:=cell_of_row w1 w.heap.size 8 _ _ _ hC
 simp only [gA,gZ,gS] at q0 q1 q2 q3 q4 q5 q6 q7 q8
 have hlt:=heap_lt hC
 have HB:=kH ((below_alloc w _).trans (hb1.mono (by simp)))
 clear hC HC hb1
 go_wp2_with fail
 refine (HM.out _ HB.out HB.out.size).mono ?_
 rintro e w2 ⟨rfl,hb2⟩
 go_wp2
 go_ret2
 exact ⟨rfl,HB.out.trans (hb2.mono HB.out.size)⟩
end
section
open Go.RowKit
variable {w0:World} {X:List Nat} {Cs:List Comp} {w:World}
theorem infoThrA:(Tryz.prog.info? 60).map (fun i=>(i.zero,i.size,i.bytes))=some (some (.pointer none),1,8):=by kernel_rfl
def sw0 (s:SetD) (mp:Nat) (rv pv tv:Value):SW:=⟨s.c.raw,s.c.ring,s.c.writes,s.c.stamps,s.c.multi,s.c.tries,rv,pv,mp,tv,.slice none 0 0,0,0⟩
def MadePost (w:World) (s:SetD) (e:Ending) (w':World):Prop :=
 ∃ (p wb:Nat) (tv rv' pv':Value) (l:List ThrN) (FF:List Nat),e=.returned (.tuple #[ptr wb,.int .i64 0])∧l.map (fun t=>stripJ t.jl)=s.tl.map (fun t=>stripJ t.2) ∧
   Sep w [] (cBlk wb (swO (sw0 s p rv' pv' tv))::cRow 60 1 tv l.length (l.map fun t=>ptr t.tb)::cMem p (mem0 (s.c.raw+Plc.sumSz s.rs s.rs.length).toNat s.c.ring.toNat) 0 FF::cRow 90 2 rv' s.rs.length (regC s.rs)::cRow 9 1 pv' s.progs.length (s.progs.map .string)::(l.flatMap thrA++l.flatMap thrB)) w'
open Classical in
theorem perm_count {A B:List Comp} (h:∀ a,A.count a=B.count a):A.Perm B:=List.perm_iff_count.2 h
theorem sep_in2 {t a i b p1 p2 p3 p4 p5 p6:Comp} {J Fl:List Comp} {W:World} (h:Sep w0 X (t::a::i::b::p1::p2::p3::p4::p5::p6::(J++Fl)) W):Sep w0 X (t::a::p1::p2::p3::p4::p5::p6::((J++[i])++Fl)) W:=by
 have T1:Sep w0 X (t::a::i::p1::p2::p3::p4::p5::p6::(J++Fl)) W:=(Sep.pull [t,a,i] h).drop
 have T2:Sep w0 X (i::t::a::p1::p2::p3::p4::p5::p6::(J++Fl)) W:=Sep.pull [t,a] T1
 have T3:Sep w0 X (i::(([t,a,p1,p2,p3,p4,p5,p6]++J)++Fl)) W:=by rw [List.append_assoc];exact T2
 have T4:=T3.push _
 rw [List.append_assoc] at T4
 rw [List.append_assoc]
 exact T4
theorem sep_thr {o u v t j p3 p4 p5 p6:Comp} {J A B:List Comp} {W:World} (h:Sep w0 X (o::u::v::t::j::p3::p4::p5::p6::(J++(A++B))) W):Sep w0 X (u::v::p3::p4::p5::p6::((A++[t,o])++(B++j::J))) W :=
 h.perm (perm_count fun a=>by
   simp only [List.count_cons,List.count_append,List.count_nil]
   omega)
theorem thrA_add (l:List ThrN) (t:ThrN):(l++[t]).flatMap thrA=l.flatMap thrA++[cBlk t.tb (stO (st0 t.jv)),cRow 74 3 (.slice none 0 0) 0 []]:=by simp [thrA]
theorem thrB_add (l:List ThrN) (t:ThrN):(l++[t]).flatMap thrB=l.flatMap thrB++(cRow 68 2 t.jv t.jl.length (jobC t.jl)::jobsC t.jl):=by simp [thrB]
theorem ptr_add (l:List ThrN) (t:ThrN):(l++[t]).map (fun t=>ptr t.tb)=(l.map fun t=>ptr t.tb)++[ptr t.tb]:=by simp
attribute [local go_sem] fill_one
theorem New_made (w:World) (s:SetD) (hs:SetupR w w.heap.size s) (hp:PlainS s) (hE:Plc.checkE s.c s.rs=0) (hm:mayB s.progs s.tl=true):Calls Tryz.prog 15 #[s.val] w (MadePost w s):=by
 obtain ⟨⟨hm1,hm2⟩,hm3,hm4⟩:=may_ok hm
 obtain ⟨hi1,hi2⟩:=hi_le hE
 obtain ⟨b1,b2,b3,b4,b5,b6,b7,b8,b9,b10,b11⟩:=of_decide_eq_true (Plc.check_ok hE)
 have HC:=kH (fun o=>Plc.Check_calls (w.alloc o) w.heap.size s.c s.rv s.rs ((readsR_of hs.regs.1 hs.regs.2).below (below_alloc w o)) (by simp))
 have HCL:=kH (fun W (hb:Below w.heap.size w W)=>Plc.Cells_calls W w.heap.size s.c s.rv s.rs ((readsR_of hs.regs.1 hs.regs.2).below hb) hb.size)
 have hcv:Plc.cellsV s.c s.rs=.tuple #[.int .i64 (s.c.raw+Plc.sumSz s.rs s.rs.length),.int .i64 0]:=by unfold Plc.cellsV;rw [if_pos hE,hE]
 rw [hcv] at HCL
 rw [hE] at HC
 have HM:=kH (fun W (hb:Below w.heap.size w W)=>schMay_calls W s ((hs.below hb).up hb.size))
 rw [hm] at HM
 obtain ⟨n,hn⟩:∃ n:Nat,s.c.raw+Plc.sumSz s.rs s.rs.length=n:=⟨(s.c.raw+Plc.sumSz s.rs s.rs.length).toNat,by omega⟩
 obtain ⟨r,hr⟩:∃ r:Nat,s.c.ring=r:=⟨s.c.ring.toNat,by omega⟩
 have HNM:=kH (fun (W:World) (Cs:List Comp) (S:Sep w [] Cs W)=>New_mem S n r ⟨by omega,by omega⟩ ⟨by omega,by omega⟩)
 have HPC:=kH (fun (W:World) (Cs:List Comp) (S:Sep w [] Cs W)=>Clone_strs S (hs.below S.kept.below).progs.1 hp.pv (by omega))
 have HRC:=kH (fun (W:World) (Cs:List Comp) (S:Sep w [] Cs W)=>Clone_regs S (hs.below S.kept.below).regs.1 hp.rv (by omega))
 have HSB:=kH (fun (W:World) (hb:Below w.heap.size w W)=>hs.below hb)
 have HPL:=kH hp
 have HMAY:=kH hm4
 obtain ⟨-,ra,rc,hrv,-⟩:=hs.regs.1
 obtain ⟨-,pa,pc,hpv,-⟩:=hs.progs.1
 obtain ⟨-,ta,tc,htv,htc,-,-⟩:=hs.thr.1
 have S0:Sep w [] [] w:=⟨Kept.refl _ _,(fun _ h=>nomatch h),List.nodup_nil,(fun _ h=>nomatch h)⟩
 have S1:=S0.new (setO s)
 rw [hn] at HCL
 have HNR:=kH (And.intro hn hr)
 unfold MadePost
 rw [hn,hr,Int.toNat_natCast,Int.toNat_natCast]
 obtain ⟨c,rv,rs,pv,progs,tv,tl⟩:=s
 obtain ⟨raw,ring,writes,stamps,multi,tries⟩:=c
 dsimp only at hrv hpv htv htc hr hm1 hm2 b11 ⊢
 subst hrv hpv htv hr
 unfold Plc.Cfg.val Plc.Cfg.cells Gives at HC HCL
 unfold SetD.val at *
 dsimp only at HC HCL HM HPC HRC ⊢
 have HS1:=kH S1
 clear hE hs hm hp hcv hn S0 S1 hi1 hi2 b1 b2 b3 b4 b5 b6 b7 b8 b9 b10 hm3 hm4
 go_enter Tryz.func15,Tryz.ntmps15
 go_wp2_with fail
 refine (HC.out _).mono ?_
 rintro e w1 ⟨rfl,hb1⟩
 have S2:=HS1.out.below hb1
 have q0:=S2.cell 0
 have q1:=S2.cell 1
 have q2:=S2.cell 2
 have q3:=S2.cell 3
 have q4:=S2.cell 4
 have q5:=S2.cell 5
 have q6:=S2.cell 6
 have q7:=S2.cell 7
 have q8:=S2.cell 8
 simp only [gA,gZ,gS] at q0 q1 q2 q3 q4 q5 q6 q7 q8
 have hlt:=heap_lt S2.h0
 have HS2:=kH S2
 clear HC HS1 hb1 S2
 go_wp2_with fail
 refine (HM.out _ HS2.out.kept.below).mono ?_
 rintro e w2 ⟨rfl,hb2⟩
 have S3:=HS2.out.below hb2
 clear q0 q1 q2 q3 q4 q5 q6 q7 q8 hlt
 have q0:=S3.cell 0
 have q1:=S3.cell 1
 have q2:=S3.cell 2
 have q3:=S3.cell 3
 have q4:=S3.cell 4
 have q5:=S3.cell 5
 have q6:=S3.cell 6
 simp only [gA,gZ,gS] at q0 q1 q2 q3 q4 q5 q6
 have hlt:=heap_lt S3.h0
 have HS3:=kH S3
 clear HM HS2 hb2 S3
 go_wp2_with fail
 refine (HCL.out _ HS3.out.kept.below).mono ?_
 rintro e w3 ⟨rfl,hb3⟩
 have S4:=HS3.out.below hb3
 clear q0 q1 q2 q3 q4 q5 q6 hlt
 have q1:=S4.cell 1
 simp only [gA,gZ,gS] at q1
 have hlt:=heap_lt S4.h0
 have HS4:=kH S4
 clear HCL HS3 hb3 S4
 go_wp2_with fail
 refine (HNM.out _ _ HS4.out).mono ?_
 rintro e w4 ⟨p,F,rfl,S5⟩
 clear q1 hlt
 have S6:=S5.sw
 have q0:=S6.cell 0
 have q1:=S6.cell 1
 have q2:=S6.cell 2
 have q3:=S6.cell 3
 have q4:=S6.cell 4
 have q5:=S6.cell 5
 have q6:=S6.cell 6
 have q7:=S6.cell 7
 simp only [gA,gZ,gS] at q0 q1 q2 q3 q4 q5 q6 q7
 have hlt:=heap_lt S6.h0
 have HPC0:=kH (HPC.out _ _ S6)
 have HPCD:=kH (fun q=>HPC.out _ _ (S6.drewN q))
 clear HNM HS4 S5 S6 HPC
 unfold ptr
 go_wp2_with fail
 go_region_held3 (fun w'=>w'.cell? ⟨w.heap.size,0,none⟩=some (.int .i64 raw)∧w'.cell? ⟨w.heap.size,1,none⟩=some (.int .i64 (r:Int))∧w'.cell? ⟨w.heap.size,2,none⟩=some (.int .i64 writes)∧w'.cell? ⟨w.heap.size,3,none⟩=some (.int .i64 stamps)∧w'.cell? ⟨w.heap.size,4,none⟩=some (.bool multi)∧w'.cell? ⟨w.heap.size,5,none⟩=some (.int .i64 tries)∧w'.cell? ⟨w.heap.size,6,none⟩=some (.slice ra rs.length rc)∧w'.cell? ⟨w.heap.size,7,none⟩=some (.slice pa progs.length pc)) (go_keep) (first | (go_at_call 33;(first | refine HPC0.out.mono ?_ | refine (HPCD.out _).mono ?_);rintro e5 w5 ⟨pv',rfl,S7⟩;obtain ⟨pa',pc',rfl,-,-⟩:=(show RowAt _ _ 1 pv' progs.length _ from S7.h0).slice;have z0:=S7.cell1 0;have z1:=S7.cell1 1;have z2:=S7.cell1 2;have z3:=S7.cell1 3;have z4:=S7.cell1 4;have z5:=S7.cell1 5;have z6:=S7.cell1 6;have z7:=S7.cell1 7;simp only [gA,gZ,gS] at z0 z1 z2 z3 z4 z5 z6 z7;have hltc:=heap_lt S7.h1;have HS7:=kH S7;clear S7))
 obtain ⟨nt,hnt⟩:∃ n,tl.length=n:=⟨_,rfl⟩
 have S8:=HS7.out.new (swO (sw0 ⟨⟨raw,(r:Int),writes,stamps,multi,tries⟩,.slice ra rs.length rc,rs,.slice pa progs.length pc,progs,.slice ta tl.length tc,tl⟩ p (.slice ra rs.length rc) (.slice pa' progs.length pc') (.slice none 0 0)))
 unfold swO swA sw0 at S8
 dsimp only at S8
 unfold ptr at S8
 generalize hW6:w5.alloc _=W6 at *
 generalize w5.heap.size=wb at *
 clear hW6 z0 z1 z2 z3 z4 z5 z6 z7 hltc HS7 HPC0 HPCD
 have g6:=(S8.pull [_,_]).cell 6
 have k6:=S8.cell 6
 have kf6:=S8.froz 6
 simp only [gA,gZ,gS] at g6 k6
 have hltw:=heap_lt S8.h0
 have hlt0:=heap_lt (S8.pull [_,_]).h0
 have HRC1:=kH (HRC.out _ _ S8)
 clear S8 HRC
 go_wp2_with fail
 refine HRC1.out.mono ?_
 rintro e7 w7 ⟨rv',rfl,S9⟩
 obtain ⟨ra',rc',rfl,-,-⟩:=(show RowAt _ _ 2 rv' rs.length _ from S9.h0).slice
 have k6':=S9.cell1 6
 have kf6':=S9.froz1 6
 simp only [gA,gZ,gS] at k6'
 have hltw':=heap_lt S9.h1
 have HS9:=kH S9
 clear S9 HRC1 g6 k6 kf6 hltw hlt0
 go_upto_region 12 with (fail)
 have S10:Sep w [] [cBlk wb (swO (sw0 ⟨⟨raw,(r:Int),writes,stamps,multi,tries⟩,.slice ra rs.length rc,rs,.slice pa progs.length pc,progs,.slice ta nt tc,tl⟩ p (.slice ra' rs.length rc') (.slice pa' progs.length pc') (.slice none 0 0))),cRow 60 1 (.slice none 0 0) 0 [],cBlk w.heap.size (setO ⟨⟨raw,(r:Int),writes,stamps,multi,tries⟩,.slice ra rs.length rc,rs,.slice pa progs.length pc,progs,.slice ta nt tc,tl⟩),cMem p (mem0 n r) 0 F,cRow 90 2 (.slice ra' rs.length rc') rs.length (rs.flatMap fun r=>[.int .i64 r.1,.int .i64 r.2]),cRow 9 1 (.slice pa' progs.length pc') progs.length (progs.map .string)] (w7.setCell ⟨wb,6,none⟩ (.slice ra' rs.length rc')):=by
   have T:=HS9.out.set1 6 (.slice ra' rs.length rc')
   simp only [List.setIfInBounds_toArray,List.set_cons_zero,List.set_cons_succ] at T
   rw [hnt] at T
   have T0:Sep w [] [_,_,_,_,_,_] _:=T.nilRow 60 1
   have T1:Sep w [] [_,_,_,_,_,_] _:=T0.pull [_,_,_]
   have T2:Sep w [] [_,_,_,_,_,_] _:=T1.pull [_,_]
   have T3:Sep w [] [_,_,_,_,_,_] _:=T2.pull [_,_,_,_,_]
   have T4:Sep w [] [_,_,_,_,_,_] _:=T3.pull [_,_,_,_,_]
   have T5:Sep w [] [_,_,_,_,_,_] _:=T4.pull [_,_,_,_]
   have T6:Sep w [] [_,_,_,_,_,_] _:=T5.pull [_,_,_,_,_]
   exact T6
 have HNT:=kH hnt
 have HTR:Hid (∀ W,Below w.heap.size w W→ReadsV W w.heap.size (.slice ta nt tc) nt 1 (tl.map (·.1))):=fun W h=>by
   have h2:=(HSB.out W h).thr.1
   dsimp only at h2
   rw [hnt] at h2
   exact h2
 have HEA:Hid (∀ W,Below w.heap.size w W→∀ t∈tl,ThrR W w.heap.size t):=fun W h=>(HSB.out W h).each
 obtain ⟨ti,tyi,tz0,tz1,tz2⟩:=info_parts infoThrA
 obtain ⟨ji,jyi,jz0,jz1,jz2⟩:=info_parts infoJobA
 rw [hnt] at htc hm1
 have HS10:=kH S10
 generalize w7.setCell ⟨wb,6,none⟩ (.slice ra' rs.length rc')=W8 at *
 have q8:=(S10.pull [_,_]).cell 8
 simp only [gA,gZ,gS] at q8
 have hlt0:=heap_lt (S10.pull [_,_]).h0
 clear S10 HS9 k6' kf6' hltw' HSB hnt
 go_wp2
 go_loopg [60] (nt+1) (fun n' v60 wr=>∃ (i:Nat) (tv':Value) (l:List ThrN),i≤nt∧v60=.int .i64 i∧n'+i=nt+1∧l.length=i∧l.map (fun t=>stripJ t.jl)=(tl.take i).map (fun t=>stripJ t.2) ∧
   Sep w [] (cBlk wb (swO (sw0 ⟨⟨raw,(r:Int),writes,stamps,multi,tries⟩,.slice ra rs.length rc,rs,.slice pa progs.length pc,progs,.slice ta nt tc,tl⟩ p (.slice ra' rs.length rc') (.slice pa' progs.length pc') tv'))::cRow 60 1 tv' l.length (l.map fun t=>ptr t.tb)::cBlk w.heap.size (setO ⟨⟨raw,(r:Int),writes,stamps,multi,tries⟩,.slice ra rs.length rc,rs,.slice pa progs.length pc,progs,.slice ta nt tc,tl⟩)::cMem p (mem0 n r) 0 F::cRow 90 2 (.slice ra' rs.length rc') rs.length (rs.flatMap fun r=>[.int .i64 r.1,.int .i64 r.2])::cRow 9 1 (.slice pa' progs.length pc') progs.length (progs.map .string)::(l.flatMap thrA++l.flatMap thrB)) wr)
 case atStart=>exact ⟨0,.slice none 0 0,[],Nat.zero_le _,rfl,rfl,rfl,rfl,HS10.out⟩
 case round =>
   obtain ⟨i,tv',l,hi,rfl,hn,hlen,hstr,S⟩:=hrel
   obtain ⟨ta',tc',rfl,htc',-⟩:=(show RowAt _ _ 1 tv' l.length _ from (S.pull [_]).h0).slice
   have HN:=kH hn
   have HLN:=kH hlen
   have HST:=kH hstr
   have HSR:=kH S
   have hbel:=S.kept.below
   have hin:(i:Int)≤(nt:Int):=by omega
   have hlen8:l.length≤8:=by omega
   clear hn hlen hstr q8 hlt0 HS10
   by_cases hlt:i < nt
   · obtain ⟨⟨tv0,jl⟩,ht⟩:∃ t,tl[i]?=some t:=⟨tl[i]'(by have:=HNT.out;omega),List.getElem?_eq_getElem _⟩
     have htm:=List.mem_of_getElem? ht
     obtain ⟨⟨-,ja,jc,hjv,hjc,-,-⟩,-,-⟩:=HEA.out _ hbel _ htm
     obtain ⟨hj32,hjob⟩:=HMAY.out _ htm
     dsimp only at hjv hjc hj32
     subst hjv
     have HJR:Hid (∀ W,Below w.heap.size w W→ReadsV W w.heap.size (.slice ja jl.length jc) jl.length 2 (jobC jl)∧∀ j∈jl,JobR W w.heap.size j):=fun W h=>⟨(HEA.out W h _ htm).1,(HEA.out W h _ htm).2.1⟩
     have HAV:Hid (∀ j∈jl,Plain j.2.2):=fun j hj=>HPL.out.av _ htm j hj
     have HJ4:Hid (∀ j∈jl,j.2.1.length≤4):=fun j hj=>(hjob j hj).2.2
     obtain ⟨nj,hnj⟩:∃ n,jl.length=n:=⟨_,rfl⟩
     have HNJ:=kH hnj
     have HST':Hid (∀ jl':List (Int×List Int×Value),stripJ jl'=stripJ jl→∀ tb v,(l++[(⟨tb,v,jl'⟩:ThrN)]).map (fun t:ThrN=>stripJ t.jl)=(tl.take (i+1)).map (fun t:Value×List (Int×List Int×Value)=>stripJ t.2)):=fun jl' h tb v=>by
       rw [List.map_append,HST.out,List.take_add_one,ht,List.map_append]
       simp [h]
     obtain ⟨-,a0,c0,hv0,-,-,hc0⟩:=HTR.out _ hbel
     injection hv0 with hv1 hv2 hv3
     rcases hc0 with h | ⟨b,off,rfl,hbB,hcell⟩
     · omega
     subst hv1
     have g0:=hcell i (.slice ja jl.length jc) (by rw [List.getElem?_map,ht];rfl)
     rw [hnj] at hjc HJR g0 hj32
     have q8:=(S.pull [_,_]).cell 8
     simp only [gA,gZ,gS] at q8
     have hlt0:=heap_lt (S.pull [_,_]).h0
     have hbs:b < wr.heap.size:=by have:=hbel.size;omega
     have hlt':(i:Int) < (nt:Int):=by omega
     have htcI:(nt:Int)≤(tc:Int):=by omega
     clear hcell ht hnj hv2 hv3 S hbel hjob
     go_upto_region 16 with (fail)
     have S2:=HSR.out.new (stO (st0 (.slice none 0 0)))
     unfold stO stA st0 at S2
     dsimp only at S2
     generalize hW9:wr.alloc _=W9 at *
     generalize wr.heap.size=tb at *
     have S3:=S2.nilRow 68 2
     have HS3:=kH S3
     clear S2 S3 hW9 g0 q8 hlt0 hbs HSR
     go_wp2
     go_loopg [68] (nj+1) (fun n' v68 ws=>∃ (k:Nat) (jv':Value) (jl':List (Int×List Int×Value)),k≤nj∧v68=.int .i64 k∧n'+k=nj+1∧jl'.length=k∧stripJ jl'=stripJ (jl.take k) ∧
       Sep w [] (cBlk tb (stO (st0 jv'))::cRow 68 2 jv' jl'.length (jobC jl')::cBlk wb (swO (sw0 ⟨⟨raw,(r:Int),writes,stamps,multi,tries⟩,.slice ra rs.length rc,rs,.slice pa progs.length pc,progs,.slice (some ⟨b,off,none⟩) nt tc,tl⟩ p (.slice ra' rs.length rc') (.slice pa' progs.length pc') (.slice ta' l.length tc')))::cRow 60 1 (.slice ta' l.length tc') l.length (l.map fun t=>ptr t.tb)::cBlk w.heap.size (setO ⟨⟨raw,(r:Int),writes,stamps,multi,tries⟩,.slice ra rs.length rc,rs,.slice pa progs.length pc,progs,.slice (some ⟨b,off,none⟩) nt tc,tl⟩)::cMem p (mem0 n r) 0 F::cRow 90 2 (.slice ra' rs.length rc') rs.length (rs.flatMap fun r=>[.int .i64 r.1,.int .i64 r.2])::cRow 9 1 (.slice pa' progs.length pc') progs.length (progs.map .string)::(jobsC jl'++(l.flatMap thrA++l.flatMap thrB))) ws)
     case atStart=>exact ⟨0,.slice none 0 0,[],Nat.zero_le _,rfl,rfl,rfl,rfl,HS3.out.sw⟩
     case round =>
       obtain ⟨k,jv',jl',hk,rfl,hn,hlen,hstr,S⟩:=hrel
       obtain ⟨ja',jc',rfl,hjc',-⟩:=(show RowAt _ _ 2 jv' jl'.length _ from (S.pull [_]).h0).slice
       have HN2:=kH hn
       have HLN2:=kH hlen
       have HST2:=kH hstr
       have HS2:=kH S
       have hbel:=S.kept.below
       have hkn:(k:Int)≤(nj:Int):=by omega
       have hlen9:jl'.length≤32:=by omega
       clear hn hstr HS3 hlen
       by_cases hltk:k < nj
       · obtain ⟨⟨pg,xs,xv⟩,hj⟩:∃ j,jl[k]?=some j:=⟨jl[k]'(by have:=HNJ.out;omega),List.getElem?_eq_getElem _⟩
         have hjm:=List.mem_of_getElem? hj
         obtain ⟨hjr,hje⟩:=HJR.out _ hbel
         obtain ⟨hpg,-,⟨-,xa,xc,hxv,-,-,-⟩,-⟩:=hje _ hjm
         have hxl:=HJ4.out _ hjm
         have hxp:=HAV.out _ hjm
         dsimp only at hpg hxv hxl hxp
         subst hxv
         have HXR:Hid (∀ W,Below w.heap.size w W→ReadsV W w.heap.size (.slice xa xs.length xc) xs.length 1 (ints xs)):=fun W h=>((HJR.out W h).2 _ hjm).2.2.1
         have HST3:Hid (∀ v,stripJ (jl'++[(pg,xs,v)])=stripJ (jl.take (k+1))):=fun v=>by
           have h:=HST2.out
           unfold stripJ at h ⊢
           rw [List.map_append,h,List.take_add_one,hj,List.map_append]
           rfl
         obtain ⟨jat0,jat1⟩:=jobC_at jl k _ hj
         obtain ⟨-,b0,d0,hv0,-,-,hc0⟩:=hjr
         injection hv0 with hv1 hv2 hv3
         rcases hc0 with h | ⟨b2,off2,rfl,hbB2,hcell2⟩
         · omega
         subst hv1
         have c1:=hcell2 _ _ jat0
         have c2:wr.cell? ⟨b2,off2+k * 2+1,none⟩=some (.slice xa xs.length xc):=hcell2 (k * 2+1) _ jat1
         have hbs3:b2 < wr.heap.size:=by have:=hbel.size;omega
         have hltk':(k:Int) < (nj:Int):=by omega
         have hjcI:(nj:Int)≤(jc:Int):=by omega
         clear hcell2 jat0 jat1 hj hv2 hv3 S hje hbel
         go_upto_region 19 with (fail)
         have S5:=HS2.out.new (.cells #[.int .i64 pg,.slice xa xs.length xc] 68 (0,0))
         generalize hW9':wr.alloc _=W10 at *
         generalize wr.heap.size=bx at *
         have x0:=S5.cell 0
         have x1:=S5.cell 1
         have t0:=S5.cell1 0
         have tf0:=S5.froz1 0
         simp only [stA,st0,gA,gZ,gS] at x0 x1 t0
         have hltx:=heap_lt S5.h0
         have hltt:=heap_lt S5.h1
         have HCA0:=kH (Clone_args S5 (HXR.out _ S5.kept.below) hxp (by omega))
         have HCAD:=kH (fun q=>Clone_args (S5.drewN q) (HXR.out _ (S5.drewN q).kept.below) hxp (by omega))
         have HS5:=kH S5
         clear S5 c1 c2 hbs3 hW9' HS2 hxp
         go_region_law (first | (refine step_append_lies _ rfl (.tmp 76) (.tmp 83) 61 rfl 0 68 ji _ 2 32 Tryz.underlying61 jyi jz0 jz1 jz2 rfl (by decide) (.slice ja' jl'.length jc') jl'.length (jobC jl') rfl (World.ownsRow.alloc HROW.out _) ⟨w11.heap.size,0,none⟩ 1 1 [.int .i64 pg,.slice aa xs.length ac] rfl rfl (fun j u hu=>new_cell (heap_new_at rfl) j u hu) (by simp [Value.oneCell']) (by decide) (by unfold maxLen;omega) (by omega) (Nat.zero_le _) _ rfl ?_;intro g7 cap7 w7' hown7 hgrow7 hat7 hgl7;have S7:=((HS6.out.alloc _).pull [_,_,_]).append hgrow7 hown7 hat7 (Nat.le_refl _);have t0'':=(S7.pull [_,_,_]).cell 0;have tf0'':=(S7.pull [_,_,_]).froz 0;simp only [stA,st0,gA,gZ,gS] at t0'';have hltt'':=heap_lt (S7.pull [_,_,_]).h0;have HS7':=kH S7;clear S7 hown7 hgrow7 hat7 hgl7) | (go_simp;go_at_call 35;(first | refine HCA0.out.mono ?_ | refine (HCAD.out _).mono ?_);rintro e11 w11 ⟨av',rfl,S6⟩;obtain ⟨aa,ac,rfl,-,-⟩:=cI_form S6;have x0':=S6.cell1 0;have x1':=S6.cell1 1;have t0':=(S6.pull [_,_]).cell 0;have tf0':=(S6.pull [_,_]).froz 0;simp only [stA,st0,gA,gZ,gS] at x0' x1' t0';have hltx':=heap_lt S6.h1;have hltt':=heap_lt (S6.pull [_,_]).h0;have HROW:Hid (RowAt w11 68 2 (.slice ja' jl'.length jc') jl'.length (jobC jl')):=(S6.pull [_,_,_]).h0;have HS6:=kH S6;clear S6))
         all_goals
           go_wp2
           go_roundg (nj - k)
           case measure=>have:=HN2.out;omega
           case rel =>
             refine ⟨k+1,.slice (some ⟨g7,0,none⟩) (jl'.length+1) cap7,jl'++[(pg,xs,.slice aa xs.length ac)],by omega,by go_num,by have:=HN2.out;omega,by rw [List.length_append,HLN2.out];rfl,HST3.out _,?_⟩
             rw [jobC_add,jobsC_add,len_add]
             exact sep_in2 ((HS7'.out.pull [_,_,_]).tset (s':=st0 (.slice (some ⟨g7,0,none⟩) (jl'.length+1) cap7)) 0 (.slice (some ⟨g7,0,none⟩) (jl'.length+1) cap7) (by simp [stA,st0]))
       · have hK:Hid (stripJ jl'=stripJ jl):=by
           have h:=HST2.out
           rw [List.take_of_length_le (by have:=HNJ.out;omega)] at h
           exact h
         have k9:=(S.pull [_,_]).cell 9
         have kf9:=(S.pull [_,_]).froz 9
         simp only [swA,sw0,gA,gZ,gS] at k9
         have hltw9:=heap_lt (S.pull [_,_]).h0
         have HROWT:Hid (RowAt wr 60 1 (.slice ta' l.length tc') l.length (l.map fun t=>ptr t.tb)):=(S.pull [_,_,_]).h0
         obtain rfl:k=nj:=by omega
         clear S hbel
         go_wp2_with (at_builtin;go_loud (refine wpList_append_lies _ rfl (.tmp 92) (.tmp 94) 57 rfl 0 60 ti _ 1 8 Tryz.underlying57 tyi tz0 tz1 tz2 rfl (by decide) (.slice ta' l.length tc') l.length (l.map fun t=>ptr t.tb) rfl (World.ownsRow.alloc HROWT.out _) ⟨wr.heap.size,0,none⟩ 1 1 [.pointer (some ⟨tb,0,none⟩)] rfl rfl (fun j u hu=>new_cell (heap_new_at rfl) j u hu) (by simp [Value.oneCell']) (by decide) (by unfold maxLen;omega) (by omega) (Nat.zero_le _) _ rfl ?_);intro g8 cap8 w8 hown8 hgrow8 hat8 hgl8;have S8:=((HS2.out.alloc _).pull [_,_,_]).append hgrow8 hown8 hat8 (Nat.le_refl _);have r9:=(S8.pull [_,_,_]).cell 9;have rf9:=(S8.pull [_,_,_]).froz 9;simp only [swA,sw0,gA,gZ,gS] at r9;have hlt9:=heap_lt (S8.pull [_,_,_]).h0;have HS8:=kH S8;clear S8 hown8 hgrow8 hat8 hgl8)
         go_roundg (nt - i)
         case measure=>have:=HN.out;omega
         case rel =>
           refine ⟨i+1,.slice (some ⟨g8,0,none⟩) (l.length+1) cap8,l++[⟨tb,.slice ja' jl'.length jc',jl'⟩],by omega,by go_num,by have:=HN.out;omega,by rw [List.length_append,HLN.out];rfl,HST'.out jl' hK.out _ _,?_⟩
           rw [thrA_add,thrB_add,ptr_add,len_add]
           exact sep_thr (((HS8.out.pull [_,_,_]).wset (s':=sw0 ⟨⟨raw,(r:Int),writes,stamps,multi,tries⟩,.slice ra rs.length rc,rs,.slice pa progs.length pc,progs,.slice (some ⟨b,off,none⟩) nt tc,tl⟩ p (.slice ra' rs.length rc') (.slice pa' progs.length pc') (.slice (some ⟨g8,0,none⟩) (l.length+1) cap8)) 9 (.slice (some ⟨g8,0,none⟩) (l.length+1) cap8) (by simp [swA,sw0])).nilRow 74 3)
   · have HTL:Hid (l.map (fun t=>stripJ t.jl)=tl.map (fun t=>stripJ t.2)):=by
       have h:=HST.out
       rw [List.take_of_length_le (by have:=HNT.out;omega)] at h
       exact h
     obtain rfl:i=nt:=by omega
     have q8:=(S.pull [_,_]).cell 8
     simp only [gA,gZ,gS] at q8
     have hlt0:=heap_lt (S.pull [_,_]).h0
     clear S hbel
     go_wp2
     go_ret2
     refine ⟨p,wb,.slice ta' l.length tc',(.slice ra' rs.length rc'),(.slice pa' progs.length pc'),l,F,rfl,HTL.out,?_⟩
     exact (HSR.out.pull [_,_]).drop
end
end Go.Proofs.YtgfogfciobmmpaaGreatDoor
