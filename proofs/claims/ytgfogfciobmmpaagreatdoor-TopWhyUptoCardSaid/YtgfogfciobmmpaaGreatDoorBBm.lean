/- A part of the proof of a law of carouseltop: Made MemN Refu NewW NewX Why0 Why1 Why2 Why3 Why4 Why5 Why6 Why7 Why8 Why9. -/
import Derived.Test.YtgfogfciobmmpaaGreatDoorBBk
import Derived.Deep.RegionLaw
import Derived.Deep.CutRange
import Derived.Deep.RegionHeld3
set_option linter.unusedSimpArgs false
set_option linter.unusedVariables false
set_option maxRecDepth 100000
set_option maxHeartbeats 8000000
namespace Go.Proofs.YtgfogfciobmmpaaGreatDoor
open Go.RowKit
section
variable {w w0:World}{X:List Nat}{As Bs Cs:List aw}{W:World}
theorem ah.rebase(S:ah w X (As++Bs) W):ah W (cu As) As W/\∀ c∈Bs,∀ W',aQ (cu As) W W'->c.holds W':=by
 have ha:=S.apart
 rw[bY,List.nodup_append]at ha
 obtain⟨n1,n2,n3⟩:=ha
 refine⟨oi (fun c hc=>S.holds c (List.mem_append.2 (.inl hc))) n1,fun c hc W' hk=>?_⟩
 have hx:∀ x∈c.foot,x∈cu Bs:=fun x hx=>kE.2 ⟨c,hc,hx⟩
 refine c.loc W W' (fun x hxc=>hk.block x (S.lt x (by rw[bY];exact List.mem_append.2 (.inr (hx x hxc)))) fun hy=>n3 x hy x (hx x hxc) rfl) (S.holds c (List.mem_append.2 (.inr hc)))
structure jy where
 tb:Nat
 jv:Value
 jl:List (Int×List Int×Value)
def zo(jv:Value):ST:=⟨jv,.pointer none,0,0,0,.slice none 0 0,0,0⟩
def py(t:jy):List aw:=[ag t.tb (fD (zo t.jv)),aN 74 3 (.slice none 0 0) 0 []]
def rI(t:jy):List aw:=aN 68 2 t.jv t.jl.length (gN t.jl)::mY t.jl
def Ci:jy:=⟨0,.slice none 0 0,[]⟩
theorem A7(g:jy->List aw)(l:List jy):el (fun i=>g (l.getD i Ci)) l.length=l.flatMap g:=by
 have h:∀ n,n<=l.length->el (fun i=>g (l.getD i Ci)) n=(l.take n).flatMap g:=by
  intro n
  induction n with
  | zero=>intro;simp[el]
  | succ n ih =>
   intro hn
   show el _ n++g (l.getD n Ci)=_
   rw[ih (by omega),List.take_succ_eq_append_getElem (by omega),List.flatMap_append]
   congr 1
   rw[List.getD_eq_getElem?_getD,List.getElem?_eq_getElem (by omega)]
   simp
 have:=h l.length (Nat.le_refl _)
 rwa [List.take_length]at this
def xd(m:au)(n:Nat):WD:=⟨m,List.replicate n ⟨none,0,0,0⟩,[],0,0⟩
def fI(wb mp:Nat)(tv:Value)(c:Plc.Cfg)(rs:List (Int×Int))(rv pv:Value)(progs:List ByteArray)(l:List jy):iE:=⟨wb,mp,tv,l.map (·.tb),c,rs,rv,pv,progs,l.map (·.jv),l.map (·.jl)⟩
theorem Ag{wb mp:Nat}{tv rv pv:Value}{c:Plc.Cfg}{rs:List (Int×Int)}{progs:List ByteArray}{l:List jy}{m:au}{F:List Nat}
  (S:ah w [] ((aG mp m 0 F::ag wb (eH ((fI wb mp tv c rs rv pv progs l).sw (.slice none 0 0) 0 0))::bW (.slice none 0 0) []::l.flatMap py) ++
   (aN 60 1 tv l.length (l.map fun t=>ptr t.tb)::aN 90 2 rv rs.length (qr rs)::aN 9 1 pv progs.length (progs.map .string)::l.flatMap rI)) W)
  (hw:0<w.heap.size) (hE:Plc.checkE c rs=0) (hp:∀ p∈progs,p.size<=512) (hpn:progs.length<=16) (hln:l.length<=8) (hjn:∀ t∈l,t.jl.length<=32)
  (hj:∀ t∈l,∀ j∈t.jl,(0<=j.1/\j.1<progs.length)/\j.2.1.length<=4/\(∀ z∈j.2.1,aI z)) (ht:Cod.Tabled w) (hm:m.ring=c.ring) (hcl:(m.cells.length:Int)=c.raw+Plc.sumSz rs rs.length) :
  ∃ X',(∀ x∈X',w.heap.size<=x)/\wX W X' (fI wb mp tv c rs rv pv progs l)/\ke W X' (fI wb mp tv c rs rv pv progs l) [] 0 (xd m l.length) W:=by
 obtain⟨S1,hB⟩:=S.rebase
 have hX:∀ x∈cu (aG mp m 0 F::ag wb (eH ((fI wb mp tv c rs rv pv progs l).sw (.slice none 0 0) 0 0))::bW (.slice none 0 0) []::l.flatMap py),w.heap.size<=x:=fun x hx=>by
  rcases S.src x (by rw[bY];exact List.mem_append.2 (.inl hx))with h|h
  ·simp at h
  ·exact h
 have hmem:=S1.h0
 have hBt:=fun t (ht:t∈l) c (hc:c∈rI t)=>hB c (List.mem_cons_of_mem _ (List.mem_cons_of_mem _ (List.mem_cons_of_mem _ (List.mem_flatMap.2 ⟨t,ht,hc⟩))))
 have hget:∀ {i:Nat} {α:Type} {g:jy->α} {y:α},(l.map g)[i]?=some y->∃ t,l[i]?=some t/\g t=y:=fun {i α g y} h=>by
  rw[List.getElem?_map]at h
  cases hl:l[i]? with
  | none=>rw[hl]at h;simp at h
  | some t=>rw[hl]at h;exact⟨t,rfl,by simpa using h⟩
 refine⟨_,hX,⟨hE,?_,?_,?_,hp,hpn,?_,⟨?_,?_⟩,?_,?_,?_,?_⟩,?_⟩
 ·intro W' hk
  have h1:=hB _ List.mem_cons_self W' hk
  have e1:(fI wb mp tv c rs rv pv progs l).tbs.length=l.length:=by simp[fI]
  have e2:(fI wb mp tv c rs rv pv progs l).tbs.map ptr=l.map fun t=>ptr t.tb:=by simp[fI]
  rw[e1,e2]
  exact h1
 ·exact fun W' hk=>hB _ (List.mem_cons_of_mem _ List.mem_cons_self) W' hk
 ·exact fun W' hk=>hB _ (List.mem_cons_of_mem _ (List.mem_cons_of_mem _ List.mem_cons_self)) W' hk
 ·simpa[fI]using hln
 ·simp[fI]
 ·simp[fI]
 ·intro i jl v h1 h2
  obtain⟨t,ht1,rfl⟩:=hget h1
  obtain⟨t',ht2,rfl⟩:=hget h2
  obtain rfl:t=t':=by rw[ht1]at ht2;simpa using ht2
  exact⟨hjn t (List.mem_of_getElem? ht1),fun W' hk=>hBt t (List.mem_of_getElem? ht1) _ List.mem_cons_self W' hk⟩
 ·intro jl hjl j hjm
  obtain⟨t,ht,rfl⟩:=List.mem_map.1 hjl
  obtain⟨h1,h2,h3⟩:=hj t ht j hjm
  exact⟨h1,h2,h3,fun W' hk=>hBt t ht (cI j.2.2 j.2.1) (List.mem_cons_of_mem _ (List.mem_map.2 ⟨j,hjm,rfl⟩)) W' hk⟩
 ·exact ht.below hw S.kept.below
 ·intro h0
  have:=hX 0 h0
  omega
 ·refine⟨.slice none 0 0,0,F,fun i=>py (l.getD i Ci),?_,by simp[xd,fI],hcl,⟨hmem.ok,hm,?_⟩,?_,Nat.zero_le _,by simp[xd],by simp[xd],by simp[xd]⟩
  ·have e1:(fI wb mp tv c rs rv pv progs l).tbs.length=l.length:=by simp[fI]
   rw[e1,A7,List.append_nil]
   exact S1
  ·intro t ht j hj
   simp only[xd,List.mem_replicate]at ht
   rw[ht.2]at hj
   simp at hj
  ·intro i t hi
   simp only[xd,List.getElem?_replicate]at hi
   split at hi
   ·rename_i hil
    injection hi with hi
    subst hi
    have hg:l[i]?=some (l[i]):=List.getElem?_eq_getElem hil
    refine⟨l[i].tb,zo l[i].jv,[],[],?_,?_,?_,rfl,rfl,by simp[zo],by simp[zo],Nat.zero_le _,rfl,rfl⟩
    ·simp[fI,hil]
    ·simp[fI,hil,zo]
    ·show py (l.getD i Ci)=_
     rw[zL hg]
     rfl
   ·simp at hi
end
section
variable {w0:World}{X:List Nat}{Cs:List aw}{w:World}
def gL(n r:Nat):au:=⟨0,List.replicate r 1,List.replicate (8*r) 0,List.replicate n 0⟩
theorem mem0_ok{n r:Nat}(hn:1<=n/\n<=1024)(hr:1<=r/\r<=16):aY (gL n r):=by
 unfold gL
 refine⟨by unfold aI;dsimp only;omega,by simpa using hr,by simp,by simpa using hn,?_,?_,?_⟩ <;>
 ·intro x hx
  have:=List.eq_of_mem_replicate hx
  unfold aI
  omega
theorem C4:(Tryz.prog.info? 2).map (fun i=>(i.zero,i.size,i.bytes))=some (some (.int .i64 0),1,8):=by kernel_rfl
theorem CV:(Tryz.prog.info? 278).map (fun i=>(i.zero,i.size,i.bytes))=some (some (.agg #[.int .i64 0,.int .i64 0,.int .i64 0,.int .i64 0,.int .i64 0,.int .i64 0,.int .i64 0,.int .i64 0]),8,64):=by kernel_rfl
theorem xX(n:Nat):madeCells #[.int .i64 0] n=dH (List.replicate n 0):=by
 apply Array.ext'
 rw[toList_madeCells_one]
 simp[dH]
theorem CH(n:Nat)(hn:n<=2000)(w:World):(Instr.makeSlice 66 (.int .i64 (n:Int)) (.int .i64 (n:Int))).run Tryz.prog w=.ok (.slice (some ⟨w.heap.size,0,none⟩) n n) (w.alloc (.cells (dH (List.replicate n 0)) 2)):=by
 obtain⟨i0,hi,hz0,hz1,hz2⟩:=info_parts C4
 have h:=run_make (P:=Tryz.prog) (w:=w) 66 2 i0 (.int .i64 0) Tryz.underlying66 hi hz0 .i64 .i64 n n (by omega) (by omega) (by rw[hz2];omega) (by omega)
 rw[hz1,Int.toNat_natCast,Nat.mul_one]at h
 rw[<-xX]
 exact h
theorem made8(n:Nat):madeCells #[.int .i64 0,.int .i64 0,.int .i64 0,.int .i64 0,.int .i64 0,.int .i64 0,.int .i64 0,.int .i64 0] n=dH (List.replicate n 0):=by
 apply Array.ext
 ·simp[madeCells,dH]
 ·intro i h1 h2
  have h8:i%8<8:=Nat.mod_lt _ (by decide)
  simp only[madeCells,dH,Array.getElem_map,Array.getElem_range,List.getElem_toArray,List.getElem_map,List.getElem_replicate]
  show(#[.int .i64 0,.int .i64 0,.int .i64 0,.int .i64 0,.int .i64 0,.int .i64 0,.int .i64 0,.int .i64 0]:Array Value)[i%8]! = _
  generalize i%8=q at h8
  rcases(show q=0\/q=1\/q=2\/q=3\/q=4\/q=5\/q=6\/q=7 by omega)with rfl|rfl|rfl|rfl|rfl|rfl|rfl|rfl<;>rfl
theorem mk_sigs(n:Nat)(hn:n<=2000)(w:World):(Instr.makeSlice 117 (.int .i64 (n:Int)) (.int .i64 (n:Int))).run Tryz.prog w=.ok (.slice (some ⟨w.heap.size,0,none⟩) n n) (w.alloc (.cells (dH (List.replicate (8*n) 0)) 278)):=by
 obtain⟨i0,hi,hz0,hz1,hz2⟩:=info_parts CV
 have h:=run_make (P:=Tryz.prog) (w:=w) 117 278 i0 _ Tryz.underlying117 hi hz0 .i64 .i64 n n (by omega) (by omega) (by rw[hz2];omega) (by omega)
 rw[hz1,Int.toNat_natCast]at h
 rw[<-made8,Nat.mul_comm 8 n]
 exact h
def CI(n r hb sb cb:Nat):Obj:=.cells #[.int .i64 0,.slice (some ⟨hb,0,none⟩) r r,.slice (some ⟨sb,0,none⟩) r r,.slice (some ⟨cb,0,none⟩) n n,.slice none 0 0] 120 (0,0)
theorem Cv(hS:ah w0 X Cs w)(o1 o2 o3 o4:Obj):ah w0 X (ag (w.heap.size+1+1+1) o4::ag (w.heap.size+1+1) o3::ag (w.heap.size+1) o2::ag w.heap.size o1::Cs) (((((w.alloc o1).alloc o2).alloc o3).alloc o4).drew):=by
 have h:=(((hS.new o1).new o2).new o3).new o4
 have e1:(w.alloc o1).heap.size=w.heap.size+1:=by simp
 have e2:((w.alloc o1).alloc o2).heap.size=w.heap.size+1+1:=by simp
 have e3:(((w.alloc o1).alloc o2).alloc o3).heap.size=w.heap.size+1+1+1:=by simp
 rw[e1,e2,e3]at h
 exact h.drew
theorem vy{p hb sb cb n r:Nat}(hn:1<=n/\n<=1024)(hr:1<=r/\r<=16)(h:ah w0 X (ag p (CI n r hb sb cb)::ag hb (.cells (dH (List.replicate r 1)) 2 (0,0))::ag sb (.cells (dH (List.replicate (8*r) 0)) 278 (0,0))::ag cb (.cells (dH (List.replicate n 0)) 2 (0,0))::Cs) w) :
  ah w0 X (aG p (gL n r) 0 [p,hb,sb,cb]::Cs) w:=by
 have ha:=h.apart
 have hh:=h.holds
 refine⟨h.kept,fun c hc=>?_,?_,fun x hx=>h.src x ?_⟩
 ·rcases List.mem_cons.1 hc with rfl|hc
  ·refine⟨hb,sb,cb,.slice none 0 0,by simp[bR],⟨?_,?_,?_,?_,⟨0,[],Nat.le_refl _,om _ _ _⟩,?_,mem0_ok hn hr⟩⟩
   ·have h0:w.heap[p]?=some (CI n r hb sb cb):=h.h0
    rw[h0]
    simp[CI,gL]
   ·exact h.h1
   ·exact h.h2
   ·exact h.h3
   ·have h2:=ha
    simp only[cu,ag,List.flatMap_cons,List.singleton_append]at h2
    have h3:([p,hb,sb,cb]++cu Cs).Nodup:=h2
    simpa[bR]using (List.nodup_append.1 h3).1
  ·exact hh c (List.mem_cons_of_mem _ (List.mem_cons_of_mem _ (List.mem_cons_of_mem _ (List.mem_cons_of_mem _ hc))))
 ·exact ha
 ·exact hx
def fil(r k:Nat):List Int:=List.replicate k 1++List.replicate (r-k) 0
theorem fil_set{r k:Nat}(h:k<r):(fil r k).set k 1=fil r (k+1):=by
 unfold fil
 rw[List.set_append_right _ _ (by simp),List.length_replicate,Nat.sub_self,List.replicate_succ',List.append_assoc]
 congr 1
 obtain⟨d,hd⟩:∃ d,r-k=d+1:=⟨r-k-1,by omega⟩
 rw[hd,show r-(k+1)=d by omega,List.replicate_succ,List.set_cons_zero]
 rfl
theorem fil_len{r k:Nat}(h:k<=r):(fil r k).length=r:=by
 unfold fil
 simp
 omega
theorem New_mem(hS:ah w0 X Cs w)(n r:Nat)(hn:1<=n/\n<=1024)(hr:1<=r/\r<=16) :
  Calls Tryz.prog 32 #[.int .i64 (n:Int),.int .i64 (r:Int)] w (fun e w'=>∃ p F,e=.returned (.tuple #[ptr p,.int .i64 0])/\ah w0 X (aG p (gL n r) 0 F::Cs) w'):=by
 have hmk1:=fun w=>CH r (by omega) w
 have hmk2:=fun w=>CH n (by omega) w
 have hmk3:=fun w=>mk_sigs r (by omega) w
 have q1:¬(n:Int)<1:=by omega
 have q2:¬(1024:Int)<(n:Int):=by omega
 have q3:¬(r:Int)<1:=by omega
 have q4:¬(16:Int)<(r:Int):=by omega
 have HS:=kH hS
 have HNR:=kH (And.intro hn hr)
 clear hS hn hr
 go_enter Tryz.func32,Tryz.ntmps32
 go_wp2_with fail
 go_cut[6]from 8 to 45 (fun v6 wc=>∃ p hb sb cb,v6=.pointer (some ⟨p,0,none⟩)/\ah w0 X (ag p (CI n r hb sb cb)::ag hb (.cells (dH (List.replicate r 0)) 2 (0,0))::ag sb (.cells (dH (List.replicate (8*r) 0)) 278 (0,0))::ag cb (.cells (dH (List.replicate n 0)) 2 (0,0))::Cs) wc)
 case first =>
  have H4:=kH (fun o1 o2 o3 o4=>Cv HS.out o1 o2 o3 o4)
  go_region
  all_goals
   go_wp2
   go_meet
   case rel =>
    first
     | exact⟨_,_,_,_,rfl,H4.out _ _ _ _⟩
     | exact⟨_,_,_,_,rfl,(H4.out _ _ _ _).perm ((List.Perm.swap _ _ _).cons _)⟩
     | exact⟨_,_,_,_,rfl,(H4.out _ _ _ _).perm (((List.Perm.swap _ _ _).cons _).cons _)⟩
     | exact⟨_,_,_,_,rfl,((H4.out _ _ _ _).perm (((List.Perm.swap _ _ _).cons _).cons _)).perm ((List.Perm.swap _ _ _).cons _)⟩
     | exact⟨_,_,_,_,rfl,((H4.out _ _ _ _).perm ((List.Perm.swap _ _ _).cons _)).perm (((List.Perm.swap _ _ _).cons _).cons _)⟩
     | exact⟨_,_,_,_,rfl,(((H4.out _ _ _ _).perm ((List.Perm.swap _ _ _).cons _)).perm (((List.Perm.swap _ _ _).cons _).cons _)).perm ((List.Perm.swap _ _ _).cons _)⟩
 case rest =>
  obtain⟨p,hb,sb,cb,rfl,S⟩:=hcut
  have k1:=S.cell 1
  simp only[gA,gZ,gS]at k1
  have hltp:=af S.h0
  have HS1:=kH S
  clear S HS
  go_wp2
  go_loopg[35] (r+1) (fun nn v35 wr=>∃ k:Nat,k<=r/\v35=.int .i64 k/\nn+k=r+1/\ah w0 X (ag p (CI n r hb sb cb)::ag hb (.cells (dH (fil r k)) 2 (0,0))::ag sb (.cells (dH (List.replicate (8*r) 0)) 278 (0,0))::ag cb (.cells (dH (List.replicate n 0)) 2 (0,0))::Cs) wr)
  case atStart=>exact⟨0,Nat.zero_le _,rfl,rfl,HS1.out⟩
  case round =>
   obtain⟨k,hk,rfl,hn,S⟩:=hrel
   have HN:=kH hn
   have k1:=S.cell 1
   simp only[gA,gZ,gS]at k1
   have hltp:=af S.h0
   have hlth:=af S.h1
   have HS2:=kH S
   have hkr:(k:Int)<=(r:Int):=by omega
   clear hn HS1
   by_cases hlt:k<r
   ·have hlt':(k:Int)<(r:Int):=by omega
    have hh:=(S.cell1 k).trans (ej _ k (by rw[fil_len hk];exact hlt))
    have hf:=S.froz1 k
    clear S
    go_wp2
    go_roundg (r-k)
    case measure=>have:=HN.out;omega
    case rel =>
     refine⟨k+1,by omega,by go_num,by have:=HN.out;omega,?_⟩
     rw[<-fil_set hlt,<-gW]
     exact HS2.out.set1 k (.int .i64 1)
   ·obtain rfl:k=r:=by omega
    clear S
    go_wp2
    go_ret2
    refine⟨p,[p,hb,sb,cb],rfl,vy HNR.out.1 HNR.out.2 ?_⟩
    have h:=HS2.out
    have e:fil k k=List.replicate k 1:=by simp[fil]
    rw[e]at h
    exact h
end
theorem vg:∀ (l:List (Int×Int)) (j:Nat),j<l.length->(l.flatMap fun r=>[Value.int .i64 r.1,.int .i64 r.2])[j*2]?=some (.int .i64 (l.getD j (0,0)).1)/\(l.flatMap fun r=>[Value.int .i64 r.1,.int .i64 r.2])[j*2+1]?=some (.int .i64 (l.getD j (0,0)).2)
 | [],j,h=>by simp at h
 | r::l,0,_=>⟨rfl,rfl⟩
 | r::l,j+1,h=>by
  have ih:=vg l j (by simpa using h)
  rw[List.flatMap_cons,show(j+1)*2=j*2+1+1 by omega]
  exact⟨by simpa using ih.1,by simpa using ih.2⟩
theorem ga{w:World}{B:Nat}{v:Value}{rs:List (Int×Int)}(h:ct w B v rs.length 2 (rs.flatMap fun r=>[.int .i64 r.1,.int .i64 r.2]))(hn:rs.length<=8796093021952):Plc.ReadsR w B v rs:=by
 obtain⟨-,a,c,h1,h2,h3,h4⟩:=h
 refine⟨hn,a,c,h1,h2,by unfold maxLen at h3;omega,?_⟩
 rcases h4 with h4|⟨b,off,h5,h6,h7⟩
 ·exact .inl (List.eq_nil_of_length_eq_zero h4)
 ·refine .inr ⟨b,off,h5,h6,fun i hi=>?_⟩
  obtain⟨k1,k2⟩:=vg rs i hi
  exact⟨h7 _ _ k1,by rw[Nat.add_assoc];exact h7 _ _ k2⟩
def jn(s:cQ):Int:=if Plc.checkE s.c s.rs=0 then(if fl s.progs s.tl=true then 0 else 1)else Plc.checkE s.c s.rs
theorem xH(w:World)(s:cQ)(hs:cP w w.heap.size s)(hE:Plc.checkE s.c s.rs≠0):Calls Tryz.prog 17 #[s.val] w (fun e w'=>e=.returned (.int .i64 (jn s))/\Below w.heap.size w w'):=by
 have hv:jn s=Plc.checkE s.c s.rs:=by unfold jn;rw[if_neg hE]
 rw[hv]
 have HC:=kH (fun o=>Plc.RefCheck_calls (w.alloc o) w.heap.size s.c s.rv s.rs ((ga hs.regs.1 (by have:=hs.regs.2;omega)).below (ai w o)) (by simp))
 obtain⟨c,rv,rs,pv,progs,tv,tl⟩:=s
 dsimp only at hE HC
 generalize Plc.checkE c rs=E at *
 have HE:=kH hE
 have hE':(E == 0)=false:=by simp[hE]
 unfold Plc.Cfg.val Plc.Cfg.cells dd at HC
 unfold cQ.val
 dsimp only
 clear hv hE hs
 go_enter Tryz.func17,Tryz.ntmps17
 go_wp2_with fail
 refine(HC.out _).mono ?_
 rintro e w1 ⟨rfl,hb1⟩
 go_wp2
 go_ret
 exact⟨rfl,(ai _ _).trans (hb1.mono (by simp))⟩
theorem ref_few(w:World)(s:cQ)(hs:cP w w.heap.size s)(hE:Plc.checkE s.c s.rs=0)(hn:¬(s.tl.length<=8/\s.progs.length<=16)):Calls Tryz.prog 17 #[s.val] w (fun e w'=>e=.returned (.int .i64 (jn s))/\Below w.heap.size w w'):=by
 have hv:jn s=1:=by unfold jn;rw[if_pos hE,vB hn];rfl
 rw[hv]
 have HC:=kH (fun o=>Plc.RefCheck_calls (w.alloc o) w.heap.size s.c s.rv s.rs ((ga hs.regs.1 (by have:=hs.regs.2;omega)).below (ai w o)) (by simp))
 rw[hE]at HC
 obtain⟨-,pa,pc,hpv,-⟩:=hs.progs.1
 obtain⟨-,ta,tc,htv,-⟩:=hs.thr.1
 obtain⟨c,rv,rs,pv,progs,tv,tl⟩:=s
 dsimp only at hpv htv hn HC
 subst hpv htv
 unfold Plc.Cfg.val Plc.Cfg.cells dd at HC
 unfold cQ.val
 dsimp only
 have hz:(8:Int)<(tl.length:Int)\/((tl.length:Int)<=8/\(16:Int)<(progs.length:Int)):=by omega
 clear hs hE hn hv
 go_enter Tryz.func17,Tryz.ntmps17
 go_wp2_with fail
 refine(HC.out _).mono ?_
 rintro e w1 ⟨rfl,hb1⟩
 have hC:=fe hb1 (aj (w:=w) rfl)
 have q7:=cell_of_row w1 w.heap.size 7 _ _ _ hC
 have q8:=cell_of_row w1 w.heap.size 8 _ _ _ hC
 simp only[gA,gZ,gS]at q7 q8
 have hlt:=af hC
 have HB:=kH ((ai w _).trans (hb1.mono (by simp)))
 clear hb1 hC HC
 rcases hz with z|⟨z0,z⟩
 ·go_wp2
  go_ret
  exact⟨rfl,HB.out⟩
 ·go_wp2
  go_ret
  exact⟨rfl,HB.out⟩
theorem Az(w:World)(s:cQ)(hs:cP w w.heap.size s)(hE:Plc.checkE s.c s.rs=0)(hn:s.tl.length<=8/\s.progs.length<=16):Calls Tryz.prog 17 #[s.val] w (fun e w'=>e=.returned (.int .i64 (jn s))/\Below w.heap.size w w'):=by
 have hv:jn s=if fl s.progs s.tl=true then 0 else 1:=by unfold jn;rw[if_pos hE]
 rw[hv]
 have HC:=kH (fun o=>Plc.RefCheck_calls (w.alloc o) w.heap.size s.c s.rv s.rs ((ga hs.regs.1 (by have:=hs.regs.2;omega)).below (ai w o)) (by simp))
 rw[hE]at HC
 clear hv hE
 obtain⟨hn1,hn2⟩:=hn
 obtain⟨-,pa,pc,hpv,hpc,-,hpr⟩:=hs.progs.1
 obtain⟨-,ta,tc,htv,htc,-,htr⟩:=hs.thr.1
 have hea:=kH hs.each
 have HMP:=kH (fun k p (h1:s.progs[k]?=some p) h2=>vA (tl:=s.tl) h1 h2)
 have HMT:=kH (fun k t (h1:s.tl[k]?=some t) h2=>zD (progs:=s.progs) h1 h2)
 have HMJ:=kH (fun k q t j (h1:s.tl[k]?=some t) (h2:t.2[q]?=some j) h3=>zE (progs:=s.progs) h1 h2 h3)
 have HMA:=kH (fun h2 h3=>zF (progs:=s.progs) (tl:=s.tl) ⟨hn1,hn2⟩ h2 h3)
 obtain⟨c,rv,rs,pv,progs,tv,tl⟩:=s
 dsimp only at hpv htv hn1 hn2 hpr htr hpc htc hea HMP HMT HMJ HMA HC
 subst hpv htv
 clear hs
 generalize fl progs tl=E at *
 have HV0:Hid (E=false->(if E=true then(0:Int)else 1)=1):=fun h=>by rw[h];rfl
 have HV1:Hid (E=true->(if E=true then(0:Int)else 1)=0):=fun h=>by rw[h];rfl
 obtain⟨V,hV⟩:∃ V:Int,(if E=true then(0:Int)else 1)=V:=⟨_,rfl⟩
 rw[hV]at HV0 HV1 ⊢
 clear hV
 unfold Plc.Cfg.val Plc.Cfg.cells dd at HC
 have HPR:=kH hpr
 have HTR:=kH htr
 clear hpr htr
 have hn1':(tl.length:Int)<=8:=by omega
 have hn2':(progs.length:Int)<=16:=by omega
 unfold cQ.val
 dsimp only
 obtain⟨np,hnp⟩:∃ n,progs.length=n:=⟨_,rfl⟩
 obtain⟨nt,hnt⟩:∃ n,tl.length=n:=⟨_,rfl⟩
 rw[hnp]at hpc hn2 hn2' HPR ⊢
 rw[hnt]at htc hn1 hn1' HTR ⊢
 have HNP:=kH hnp
 have HNT:=kH hnt
 clear hnp hnt
 go_enter Tryz.func17,Tryz.ntmps17
 go_wp2_with fail
 refine(HC.out _).mono ?_
 rintro e w1 ⟨rfl,hb1⟩
 have hC1:=fe hb1 (aj (w:=w) rfl)
 have p7:=cell_of_row w1 w.heap.size 7 _ _ _ hC1
 have p8:=cell_of_row w1 w.heap.size 8 _ _ _ hC1
 simp only[gA,gZ,gS]at p7 p8
 have hlt1:=af hC1
 have HC1:=kH hC1
 have HB1:=kH ((ai w _).trans (hb1.mono (by simp)))
 clear hb1 hC1 HC
 go_wp2
 go_loopg[4] (np+1) (fun n v22 wr=>∃ (k:Nat),k<=np/\v22=.int .i64 k/\n+k=np+1/\(∀ (q:Nat) (p:ByteArray),q<k->progs[q]?=some p->p.size<=512)/\wr.heap[w.heap.size]?=some (jD ⟨c,rv,rs,.slice pa np pc,progs,.slice ta nt tc,tl⟩)/\Below w.heap.size w wr)
 case atStart=>exact⟨0,Nat.zero_le _,rfl,rfl,fun q p hq=>by omega,HC1.out,HB1.out⟩
 case round =>
  obtain⟨k,hk,rfl,hn,hall,hC,bel⟩:=hrel
  have HC:=kH hC
  have q7:=cell_of_row wr w.heap.size 7 _ _ _ hC
  have q8:=cell_of_row wr w.heap.size 8 _ _ _ hC
  simp only[gA,gZ,gS]at q7 q8
  have HN:=kH hn
  have HA:=kH hall
  have hwsz:=af hC
  have hkn:(k:Int)<=(np:Int):=by omega
  clear hn hall hC p7 p8 hlt1
  by_cases hlt:k<np
  ·obtain⟨p,hp⟩:∃ p,progs[k]?=some p:=⟨progs[k]'(by have:=HNP.out;omega),List.getElem?_eq_getElem _⟩
   rcases HPR.out with h|⟨b,off,rfl,hbB,hcell⟩
   ·omega
   have hc0:=(bel.cell (p:=⟨b,off+k,none⟩) (by simp;omega)).trans (hcell k (.string p) (by rw[List.getElem?_map,hp];rfl))
   have HMP':=kH (HMP.out k p hp)
   have HA':Hid (p.size<=512->∀ (q:Nat) (p:ByteArray),q<k+1->progs[q]?=some p->p.size<=512):=fun h q p' hq hp'=>by
    by_cases e:q=k
    ·subst e
     rw[hp]at hp'
     injection hp' with hp'
     subst hp'
     exact h
    ·exact HA.out q p' (by omega) hp'
   have hbs:b<wr.heap.size:=by have:=bel.size;omega
   have hlt':(k:Int)<(np:Int):=by omega
   have hpc':(np:Int)<=(pc:Int):=by omega
   clear hcell hp
   by_cases hb:p.size<=512
   ·have hb':(p.size:Int)<=512:=by omega
    go_wp2
    go_roundg (np-k)
    case measure=>have:=HN.out;omega
    case rel=>exact⟨k+1,by omega,by go_num,by omega,HA'.out hb,HC.out,bel⟩
   ·have hb':(512:Int)<(p.size:Int):=by omega
    go_wp2
    go_ret
    exact⟨by rw[HV0.out (HMP'.out (by omega))];rfl,bel⟩
  ·obtain rfl:k=np:=by omega
   go_wp2
   go_loopg[5] (nt+1) (fun n v33 ws=>∃ (i:Nat),i<=nt/\v33=.int .i64 i/\n+i=nt+1/\(∀ (q:Nat) (t:Value×List (Int×List Int×Value)),q<i->tl[q]?=some t->t.2.length<=32/\∀ (q2:Nat) (j:Int×List Int×Value),t.2[q2]?=some j->fm k j=true)/\ws.heap[w.heap.size]?=some (jD ⟨c,rv,rs,.slice pa k pc,progs,.slice ta nt tc,tl⟩)/\Below w.heap.size w ws)
   case atStart=>exact⟨0,Nat.zero_le _,rfl,rfl,fun q t hq=>by omega,HC.out,bel⟩
   case round =>
    obtain⟨i,hi,rfl,hn,hall,hC2,bel2⟩:=hrel
    have HC2:=kH hC2
    have q7':=cell_of_row wr w.heap.size 7 _ _ _ hC2
    have q8':=cell_of_row wr w.heap.size 8 _ _ _ hC2
    simp only[gA,gZ,gS]at q7' q8'
    have HN2:=kH hn
    have HA2:=kH hall
    have hwsz2:=af hC2
    have hin:(i:Int)<=(nt:Int):=by omega
    clear hn hall hC2 q7 q8 hwsz
    by_cases hlt:i<nt
    ·obtain⟨⟨tv',jl⟩,ht⟩:∃ t,tl[i]?=some t:=⟨tl[i]'(by have:=HNT.out;omega),List.getElem?_eq_getElem _⟩
     obtain⟨⟨-,ja,jc,hjv,hjc,-,hjr⟩,hje,-⟩:=hea.out _ (List.mem_of_getElem? ht)
     dsimp only at hjv hjc hjr hje
     subst hjv
     have HMT':=kH (HMT.out i _ ht)
     have HMJ':=kH (fun q j h2 h3=>HMJ.out i q _ j ht h2 h3)
     have HA2':Hid ((jl.length<=32/\∀ (q2:Nat) (j:Int×List Int×Value),jl[q2]?=some j->fm k j=true)->∀ (q:Nat) (t:Value×List (Int×List Int×Value)),q<i+1->tl[q]?=some t->t.2.length<=32/\∀ q2 j,t.2[q2]?=some j->fm k j=true):=fun h q t' hq ht'=>by
      by_cases e:q=i
      ·subst e
       rw[ht]at ht'
       injection ht' with ht'
       subst ht'
       exact h
      ·exact HA2.out q t' (by omega) ht'
     have HJR:=kH hjr
     have HJE:=kH hje
     obtain⟨nj,hnj⟩:∃ n,jl.length=n:=⟨_,rfl⟩
     rw[hnj]at hjc HJR HA2'
     have HNJ:=kH hnj
     dsimp only at HMT'
     rw[hnj]at HMT'
     rcases HTR.out with h|⟨b,off,rfl,hbB,hcell⟩
     ·omega
     have HC0:=kH (fun W (hW:Below w.heap.size w W)=>(hW.cell (p:=⟨b,off+i,none⟩) (by simp;omega)).trans (hcell i (.slice ja jl.length jc) (by rw[List.getElem?_map,ht];rfl)))
     rw[hnj]at HC0
     have hc0:=HC0.out _ bel2
     have hbs:b<wr.heap.size:=by have:=bel2.size;omega
     have hlt':(i:Int)<(nt:Int):=by omega
     have htc':(nt:Int)<=(tc:Int):=by omega
     clear hcell ht hnj hjr hje
     by_cases h32:nj<=32
     ·have h32':(nj:Int)<=32:=by omega
      go_wp2
      go_loopg[6] (nj+1) (fun n v42 wr=>∃ (q:Nat),q<=nj/\v42=.int .i64 q/\n+q=nj+1/\(∀ (q2:Nat) (j:Int×List Int×Value),q2<q->jl[q2]?=some j->fm k j=true)/\wr.heap[w.heap.size]?=some (jD ⟨c,rv,rs,.slice pa k pc,progs,.slice (some ⟨b,off,none⟩) nt tc,tl⟩)/\Below w.heap.size w wr)
      case atStart=>exact⟨0,Nat.zero_le _,rfl,rfl,fun q j hq=>by omega,HC2.out,bel2⟩
      case round =>
       obtain⟨q,hq,rfl,hn,hall,hC3,bel3⟩:=hrel
       have HC3:=kH hC3
       have q7'':=cell_of_row wr w.heap.size 7 _ _ _ hC3
       have q8'':=cell_of_row wr w.heap.size 8 _ _ _ hC3
       simp only[gA,gZ,gS]at q7'' q8''
       have HN3:=kH hn
       have HA3:=kH hall
       have hwsz3:=af hC3
       have hqn:(q:Int)<=(nj:Int):=by omega
       clear hn hall hC3 q7' q8' hwsz2 hc0
       have hc0:=HC0.out _ bel3
       have hbs3:b<wr.heap.size:=by have:=bel3.size;omega
       by_cases hlt2:q<nj
       ·obtain⟨⟨pg,xs,xv⟩,hj⟩:∃ j,jl[q]?=some j:=⟨jl[q]'(by have:=HNJ.out;omega),List.getElem?_eq_getElem _⟩
        obtain⟨-,-,⟨-,xa,xc,hxv,-⟩,-⟩:=HJE.out _ (List.mem_of_getElem? hj)
        dsimp only at hxv
        subst hxv
        obtain⟨jat0,jat1⟩:=lm jl q _ hj
        have HMJ2:=kH (HMJ'.out q _ hj)
        have HA3':Hid (fm k (pg,xs,.slice xa xs.length xc)=true->∀ (q2:Nat) (j:Int×List Int×Value),q2<q+1->jl[q2]?=some j->fm k j=true):=fun h q2 j' hq2 hj'=>by
         by_cases e:q2=q
         ·subst e
          rw[hj]at hj'
          injection hj' with hj'
          subst hj'
          exact h
         ·exact HA3.out q2 j' (by omega) hj'
        have HDJ:=kH (show(0<=pg/\pg<(k:Int)/\xs.length<=4)↔fm k (pg,xs,.slice xa xs.length xc)=true by unfold fm;simp)
        rcases HJR.out with h|⟨b2,off2,rfl,hbB2,hcell2⟩
        ·omega
        have hc1:=(bel3.cell (p:=⟨b2,off2+q*2,none⟩) (by simp;omega)).trans (hcell2 _ _ jat0)
        have hc2:=(bel3.cell (p:=⟨b2,off2+q*2+1,none⟩) (by simp;omega)).trans (hcell2 (q*2+1) _ jat1)
        have hbs2:b2<wr.heap.size:=by have:=bel3.size;omega
        have hlt2':(q:Int)<(nj:Int):=by omega
        have hjc':(nj:Int)<=(jc:Int):=by omega
        obtain⟨xn,hxn⟩:∃ n,xs.length=n:=⟨_,rfl⟩
        have HXN:=kH hxn
        rw[hxn]at hc2 HDJ HA3' HMJ2
        clear hcell2 jat0 jat1 hj hxn
        have HB3:=kH (fun o=>fe (ai wr o) HC3.out)
        have HBEL:=kH (fun o=>bel3.trans ((ai wr o).mono bel3.size))
        rcases(show pg<0\/(0<=pg/\(k:Int)<=pg)\/((0<=pg/\pg<k)/\(4:Int)<xn)\/((0<=pg/\pg<k)/\(xn:Int)<=4) by omega)with z|⟨z0,z⟩|⟨⟨z0,z1⟩,z⟩|⟨⟨z0,z1⟩,z⟩
        ·have HF:Hid (fm k (pg,xs,.slice xa xn xc)=false):=by
          have:=HDJ.out
          cases hb:fm k (pg,xs,.slice xa xn xc)with
          | false=>rfl
          | true=>have:=this.2 hb;omega
         go_wp2
         go_ret
         exact⟨by rw[HV0.out (HMJ2.out (by rw[HNP.out];exact HF.out))];rfl,HBEL.out _⟩
        ·have HF:Hid (fm k (pg,xs,.slice xa xn xc)=false):=by
          have:=HDJ.out
          cases hb:fm k (pg,xs,.slice xa xn xc)with
          | false=>rfl
          | true=>have:=this.2 hb;omega
         have z0':¬pg<0:=by omega
         go_wp2
         go_ret
         exact⟨by rw[HV0.out (HMJ2.out (by rw[HNP.out];exact HF.out))];rfl,HBEL.out _⟩
        ·have HF:Hid (fm k (pg,xs,.slice xa xn xc)=false):=by
          have:=HDJ.out
          cases hb:fm k (pg,xs,.slice xa xn xc)with
          | false=>rfl
          | true=>have:=this.2 hb;omega
         have z0':¬pg<0:=by omega
         go_wp2
         go_ret
         exact⟨by rw[HV0.out (HMJ2.out (by rw[HNP.out];exact HF.out))];rfl,HBEL.out _⟩
        ·have HF:=kH (HDJ.out.1 ⟨z0,z1,by omega⟩)
         have z0':¬pg<0:=by omega
         go_wp2
         go_roundg (nj-q)
         case measure=>have:=HN3.out;omega
         case rel=>exact⟨q+1,by omega,by go_num,by omega,HA3'.out HF.out,HB3.out _,HBEL.out _⟩
       ·obtain rfl:q=nj:=by omega
        have HA4:=kH (HA2'.out ⟨h32,fun q2 j hj=>HA3.out q2 j (by have:=(List.getElem?_eq_some_iff.1 hj).1;have:=HNJ.out;omega) hj⟩)
        go_wp2
        go_roundg (nt-i)
        case measure=>have:=HN2.out;omega
        case rel=>exact⟨i+1,by omega,by go_num,by omega,HA4.out,HC3.out,bel3⟩
     ·have h32':(32:Int)<(nj:Int):=by omega
      go_wp2
      go_ret
      exact⟨by rw[HV0.out (HMT'.out (by omega))];rfl,bel2⟩
    ·obtain rfl:i=nt:=by omega
     have HF:=kH (HMA.out (fun q p hp=>HA.out q p (by have:=(List.getElem?_eq_some_iff.1 hp).1;have:=HNP.out;omega) hp) (fun q t ht=>by rw[HNP.out];exact HA2.out q t (by have:=(List.getElem?_eq_some_iff.1 ht).1;have:=HNT.out;omega) ht))
     go_wp2
     go_ret
     exact⟨by rw[HV1.out HF.out];rfl,bel2⟩
theorem lU(w:World)(s:cQ)(hs:cP w w.heap.size s):Calls Tryz.prog 17 #[s.val] w (fun e w'=>e=.returned (.int .i64 (jn s))/\Below w.heap.size w w'):=by
 by_cases hE:Plc.checkE s.c s.rs=0
 ·by_cases hn:s.tl.length<=8/\s.progs.length<=16
  ·exact Az w s hs hE hn
  ·exact ref_few w s hs hE hn
 ·exact xH w s hs hE
section
variable {w0:World}{X:List Nat}{Cs:List aw}{w:World}
theorem sizeStr:∀ w,(Go.sizeOf 9).run Tryz.prog w=.ok 1 w:=fun w=>by kernel_rfl
theorem sizeReg:∀ w,(Go.sizeOf 90).run Tryz.prog w=.ok 2 w:=fun w=>by kernel_rfl
theorem ze{B:Nat}{v:Value}{ps:List ByteArray}(hS:ah w0 X Cs w)(hr:ct w B v ps.length 1 (ps.map .string))(hp:pq v)(hn:ps.length<=100000) :
  Calls Tryz.prog 33 #[v] w (fun e w'=>∃ v',e=.returned v'/\ah w0 X (aN 9 1 v' ps.length (ps.map .string)::Cs) w'):=by
 obtain⟨a,n,c,rfl,ha⟩:=hp
 obtain⟨hl,a',c',hv,hc,hcm,hcell⟩:=hr
 injection hv with h1 h2 h3
 subst h1 h2 h3
 obtain⟨i0,yi,yz0,yz1,yz2⟩:=info_parts vO
 rcases ha with rfl|⟨b,off,rfl⟩
 ·rcases hcell with h|⟨b,off,h,-⟩
  ·refine(Tryz.Clone_str_nil _ _ w).mono ?_
   rintro e w' ⟨rfl,rfl⟩
   have hps:ps=[]:=List.eq_nil_of_length_eq_zero h
   subst hps
   exact⟨_,rfl,hS.nilRow _ _⟩
  ·simp at h
 ·refine(Tryz.Clone_str i0 _ 1 16 yi yz0 yz1 yz2 rfl (by decide) sizeStr b off ps.length c (ps.map .string) w hl (by unfold maxLen;omega) (by omega) (fun j u hu=>?_) (uS ps)).mono ?_
  ·rcases hcell with h|⟨b',off',h,-,hc'⟩
   ·have hps:ps=[]:=List.eq_nil_of_length_eq_zero h
    subst hps
    simp at hu
   ·injection h with h
    injection h with h1 h2 _
    subst h1 h2
    exact hc' j u hu
  ·rintro e w' ⟨v',rfl,hr,-,hb⟩
   exact⟨v',rfl,hS.gotRow hb hr⟩
theorem zf{B:Nat}{v:Value}{rs:List (Int×Int)}(hS:ah w0 X Cs w)(hr:ct w B v rs.length 2 (rs.flatMap fun r=>[.int .i64 r.1,.int .i64 r.2]))(hp:pq v)(hn:rs.length<=100000) :
  Calls Tryz.prog 34 #[v] w (fun e w'=>∃ v',e=.returned v'/\ah w0 X (aN 90 2 v' rs.length (rs.flatMap fun r=>[.int .i64 r.1,.int .i64 r.2])::Cs) w'):=by
 obtain⟨a,n,c,rfl,ha⟩:=hp
 obtain⟨hl,a',c',hv,hc,hcm,hcell⟩:=hr
 injection hv with h1 h2 h3
 subst h1 h2 h3
 obtain⟨i0,yi,yz0,yz1,yz2⟩:=info_parts vP
 rcases ha with rfl|⟨b,off,rfl⟩
 ·rcases hcell with h|⟨b,off,h,-⟩
  ·refine(Tryz.Clone_reg_nil _ _ w).mono ?_
   rintro e w' ⟨rfl,rfl⟩
   have hps:rs=[]:=List.eq_nil_of_length_eq_zero h
   subst hps
   exact⟨_,rfl,hS.nilRow _ _⟩
  ·simp at h
 ·refine(Tryz.Clone_reg i0 _ 2 16 yi yz0 yz1 yz2 rfl (by decide) sizeReg b off rs.length c _ w hl (by unfold maxLen;omega) (by omega) (fun j u hu=>?_) (sr rs)).mono ?_
  ·rcases hcell with h|⟨b',off',h,-,hc'⟩
   ·have hps:rs=[]:=List.eq_nil_of_length_eq_zero h
    subst hps
    simp at hu
   ·injection h with h
    injection h with h1 h2 _
    subst h1 h2
    exact hc' j u hu
  ·rintro e w' ⟨v',rfl,hr,-,hb⟩
   exact⟨v',rfl,hS.gotRow hb hr⟩
theorem rE{B:Nat}{v:Value}{xs:List Int}(hS:ah w0 X Cs w)(hr:ct w B v xs.length 1 (bz xs))(hp:pq v)(hn:xs.length<=100000) :
  Calls Tryz.prog 35 #[v] w (fun e w'=>∃ v',e=.returned v'/\ah w0 X (cI v' xs::Cs) w'):=by
 obtain⟨a,n,c,rfl,ha⟩:=hp
 obtain⟨hl,a',c',hv,hc,hcm,hcell⟩:=hr
 injection hv with h1 h2 h3
 subst h1 h2 h3
 rcases ha with rfl|⟨b,off,rfl⟩
 ·rcases hcell with h|⟨b,off,h,-⟩
  ·refine(Tryz.Clone_i64_nil _ _ w).mono ?_
   rintro e w' ⟨rfl,rfl⟩
   have hps:xs=[]:=List.eq_nil_of_length_eq_zero h
   subst hps
   exact⟨_,rfl,hS.nilRow _ _⟩
  ·simp at h
 ·refine jY hS b off xs.length c xs rfl (by omega) (fun j u hu=>?_)
  rcases hcell with h|⟨b',off',h,-,hc'⟩
  ·have hps:xs=[]:=List.eq_nil_of_length_eq_zero h
   subst hps
   simp[bz]at hu
  ·injection h with h
   injection h with h1 h2 _
   subst h1 h2
   exact hc' j u hu
def D1(E:Int)(w:World)(e:Ending)(w':World):Prop:=e=.returned (.tuple #[.pointer none,.int .i64 E])/\Below w.heap.size w w'
theorem yZ(w:World)(s:cQ)(hs:cP w w.heap.size s)(hE:Plc.checkE s.c s.rs≠0):Calls Tryz.prog 15 #[s.val] w (D1 (Plc.checkE s.c s.rs) w):=by
 have HC:=kH (fun o=>Plc.Check_calls (w.alloc o) w.heap.size s.c s.rv s.rs ((ga hs.regs.1 hs.regs.2).below (ai w o)) (by simp))
 obtain⟨c,rv,rs,pv,progs,tv,tl⟩:=s
 dsimp only at hE HC ⊢
 generalize Plc.checkE c rs=E at *
 have hE':(E == 0)=false:=by simp[hE]
 unfold Plc.Cfg.val Plc.Cfg.cells dd at HC
 unfold cQ.val
 dsimp only
 clear hE hs
 go_enter Tryz.func15,Tryz.ntmps15
 go_wp2_with fail
 refine(HC.out _).mono ?_
 rintro e w1 ⟨rfl,hb1⟩
 go_wp2
 go_ret2
 exact⟨rfl,(ai _ _).trans (hb1.mono (by simp))⟩
theorem New_may(w:World)(s:cQ)(hs:cP w w.heap.size s)(hE:Plc.checkE s.c s.rs=0)(hm:fl s.progs s.tl=false):Calls Tryz.prog 15 #[s.val] w (D1 1 w):=by
 have HC:=kH (fun o=>Plc.Check_calls (w.alloc o) w.heap.size s.c s.rv s.rs ((ga hs.regs.1 hs.regs.2).below (ai w o)) (by simp))
 rw[hE]at HC
 have HM:=kH (fun W (hb:Below w.heap.size w W) (hsz:w.heap.size<=W.heap.size)=>mK W s ((hs.below hb).up hsz))
 rw[hm]at HM
 obtain⟨c,rv,rs,pv,progs,tv,tl⟩:=s
 unfold Plc.Cfg.val Plc.Cfg.cells dd at HC
 unfold cQ.val at *
 dsimp only at *
 clear hE hs hm
 go_enter Tryz.func15,Tryz.ntmps15
 go_wp2_with fail
 refine(HC.out _).mono ?_
 rintro e w1 ⟨rfl,hb1⟩
 have hC:=fe hb1 (aj (w:=w) rfl)
 have q0:=cell_of_row w1 w.heap.size 0 _ _ _ hC
 have q1:=cell_of_row w1 w.heap.size 1 _ _ _ hC
 have q2:=cell_of_row w1 w.heap.size 2 _ _ _ hC
 have q3:=cell_of_row w1 w.heap.size 3 _ _ _ hC
 have q4:=cell_of_row w1 w.heap.size 4 _ _ _ hC
 have q5:=cell_of_row w1 w.heap.size 5 _ _ _ hC
 have q6:=cell_of_row w1 w.heap.size 6 _ _ _ hC
 have q7:=cell_of_row w1 w.heap.size 7 _ _ _ hC
 have q8:=cell_of_row w1 w.heap.size 8 _ _ _ hC
 simp only[gA,gZ,gS]at q0 q1 q2 q3 q4 q5 q6 q7 q8
 have hlt:=af hC
 have HB:=kH ((ai w _).trans (hb1.mono (by simp)))
 clear hC HC hb1
 go_wp2_with fail
 refine(HM.out _ HB.out HB.out.size).mono ?_
 rintro e w2 ⟨rfl,hb2⟩
 go_wp2
 go_ret2
 exact⟨rfl,HB.out.trans (hb2.mono HB.out.size)⟩
end
section
variable {w0:World}{X:List Nat}{Cs:List aw}{w:World}
theorem CU:(Tryz.prog.info? 60).map (fun i=>(i.zero,i.size,i.bytes))=some (some (.pointer none),1,8):=by kernel_rfl
def zm(s:cQ)(mp:Nat)(rv pv tv:Value):SW:=⟨s.c.raw,s.c.ring,s.c.writes,s.c.stamps,s.c.multi,s.c.tries,rv,pv,mp,tv,.slice none 0 0,0,0⟩
def rq(w:World)(s:cQ)(e:Ending)(w':World):Prop :=
 ∃ (p wb:Nat) (tv rv' pv':Value) (l:List jy) (FF:List Nat),e=.returned (.tuple #[ptr wb,.int .i64 0])/\l.map (fun t=>ba t.jl)=s.tl.map (fun t=>ba t.2) /\
  ah w [] (ag wb (eH (zm s p rv' pv' tv))::aN 60 1 tv l.length (l.map fun t=>ptr t.tb)::aG p (gL (s.c.raw+Plc.sumSz s.rs s.rs.length).toNat s.c.ring.toNat) 0 FF::aN 90 2 rv' s.rs.length (qr s.rs)::aN 9 1 pv' s.progs.length (s.progs.map .string)::(l.flatMap py++l.flatMap rI)) w'
open Classical in
theorem qz{A B:List aw}(h:∀ a,A.count a=B.count a):A.Perm B:=List.perm_iff_count.2 h
theorem sep_in2{t a i b p1 p2 p3 p4 p5 p6:aw}{J Fl:List aw}{W:World}(h:ah w0 X (t::a::i::b::p1::p2::p3::p4::p5::p6::(J++Fl)) W):ah w0 X (t::a::p1::p2::p3::p4::p5::p6::((J++[i])++Fl)) W:=by
 have T1:ah w0 X (t::a::i::p1::p2::p3::p4::p5::p6::(J++Fl)) W:=(ah.pull [t,a,i] h).drop
 have T2:ah w0 X (i::t::a::p1::p2::p3::p4::p5::p6::(J++Fl)) W:=ah.pull [t,a] T1
 have T3:ah w0 X (i::(([t,a,p1,p2,p3,p4,p5,p6]++J)++Fl)) W:=by rw[List.append_assoc];exact T2
 have T4:=T3.push _
 rw[List.append_assoc]at T4
 rw[List.append_assoc]
 exact T4
theorem sep_thr{o u v t j p3 p4 p5 p6:aw}{J A B:List aw}{W:World}(h:ah w0 X (o::u::v::t::j::p3::p4::p5::p6::(J++(A++B))) W):ah w0 X (u::v::p3::p4::p5::p6::((A++[t,o])++(B++j::J))) W :=
 h.perm (qz fun a=>by
  simp only[List.count_cons,List.count_append,List.count_nil]
  omega)
theorem Ch(l:List jy)(t:jy):(l++[t]).flatMap py=l.flatMap py++[ag t.tb (fD (zo t.jv)),aN 74 3 (.slice none 0 0) 0 []]:=by simp[py]
theorem Cg(l:List jy)(t:jy):(l++[t]).flatMap rI=l.flatMap rI++(aN 68 2 t.jv t.jl.length (gN t.jl)::mY t.jl):=by simp[rI]
theorem ptr_add(l:List jy)(t:jy):(l++[t]).map (fun t=>ptr t.tb)=(l.map fun t=>ptr t.tb)++[ptr t.tb]:=by simp
attribute [local go_sem] ip
theorem D0(w:World)(s:cQ)(hs:cP w w.heap.size s)(hp:uo s)(hE:Plc.checkE s.c s.rs=0)(hm:fl s.progs s.tl=true):Calls Tryz.prog 15 #[s.val] w (rq w s):=by
 obtain⟨⟨hm1,hm2⟩,hm3,hm4⟩:=CL hm
 obtain⟨hi1,hi2⟩:=zJ hE
 obtain⟨b1,b2,b3,b4,b5,b6,b7,b8,b9,b10,b11⟩:=of_decide_eq_true (Plc.check_ok hE)
 have HC:=kH (fun o=>Plc.Check_calls (w.alloc o) w.heap.size s.c s.rv s.rs ((ga hs.regs.1 hs.regs.2).below (ai w o)) (by simp))
 have HCL:=kH (fun W (hb:Below w.heap.size w W)=>Plc.Cells_calls W w.heap.size s.c s.rv s.rs ((ga hs.regs.1 hs.regs.2).below hb) hb.size)
 have hcv:Plc.cellsV s.c s.rs=.tuple #[.int .i64 (s.c.raw+Plc.sumSz s.rs s.rs.length),.int .i64 0]:=by unfold Plc.cellsV;rw[if_pos hE,hE]
 rw[hcv]at HCL
 rw[hE]at HC
 have HM:=kH (fun W (hb:Below w.heap.size w W)=>mK W s ((hs.below hb).up hb.size))
 rw[hm]at HM
 obtain⟨n,hn⟩:∃ n:Nat,s.c.raw+Plc.sumSz s.rs s.rs.length=n:=⟨(s.c.raw+Plc.sumSz s.rs s.rs.length).toNat,by omega⟩
 obtain⟨r,hr⟩:∃ r:Nat,s.c.ring=r:=⟨s.c.ring.toNat,by omega⟩
 have HNM:=kH (fun(W:World) (Cs:List aw) (S:ah w [] Cs W)=>New_mem S n r ⟨by omega,by omega⟩ ⟨by omega,by omega⟩)
 have HPC:=kH (fun(W:World) (Cs:List aw) (S:ah w [] Cs W)=>ze S (hs.below S.kept.below).progs.1 hp.pv (by omega))
 have HRC:=kH (fun(W:World) (Cs:List aw) (S:ah w [] Cs W)=>zf S (hs.below S.kept.below).regs.1 hp.rv (by omega))
 have HSB:=kH (fun(W:World) (hb:Below w.heap.size w W)=>hs.below hb)
 have HPL:=kH hp
 have HMAY:=kH hm4
 obtain⟨-,ra,rc,hrv,-⟩:=hs.regs.1
 obtain⟨-,pa,pc,hpv,-⟩:=hs.progs.1
 obtain⟨-,ta,tc,htv,htc,-,-⟩:=hs.thr.1
 have S0:ah w [] [] w:=⟨aQ.refl _ _,(fun _ h=>nomatch h),List.nodup_nil,(fun _ h=>nomatch h)⟩
 have S1:=S0.new (jD s)
 rw[hn]at HCL
 have HNR:=kH (And.intro hn hr)
 unfold rq
 rw[hn,hr,Int.toNat_natCast,Int.toNat_natCast]
 obtain⟨c,rv,rs,pv,progs,tv,tl⟩:=s
 obtain⟨raw,ring,writes,stamps,multi,tries⟩:=c
 dsimp only at hrv hpv htv htc hr hm1 hm2 b11 ⊢
 subst hrv hpv htv hr
 unfold Plc.Cfg.val Plc.Cfg.cells dd at HC HCL
 unfold cQ.val at *
 dsimp only at HC HCL HM HPC HRC ⊢
 have HS1:=kH S1
 clear hE hs hm hp hcv hn S0 S1 hi1 hi2 b1 b2 b3 b4 b5 b6 b7 b8 b9 b10 hm3 hm4
 go_enter Tryz.func15,Tryz.ntmps15
 go_wp2_with fail
 refine(HC.out _).mono ?_
 rintro e w1 ⟨rfl,hb1⟩
 have S2:=HS1.out.below hb1
 have q0:=S2.cell 0
 have q1:=S2.cell 1
 have q2:=S2.cell 2
 have q3:=S2.cell 3
 have q4:=S2.cell 4
 have q5:=S2.cell 5
 have q6:=S2.cell 6
 have q7:=S2.cell 7
 have q8:=S2.cell 8
 simp only[gA,gZ,gS]at q0 q1 q2 q3 q4 q5 q6 q7 q8
 have hlt:=af S2.h0
 have HS2:=kH S2
 clear HC HS1 hb1 S2
 go_wp2_with fail
 refine(HM.out _ HS2.out.kept.below).mono ?_
 rintro e w2 ⟨rfl,hb2⟩
 have S3:=HS2.out.below hb2
 clear q0 q1 q2 q3 q4 q5 q6 q7 q8 hlt
 have q0:=S3.cell 0
 have q1:=S3.cell 1
 have q2:=S3.cell 2
 have q3:=S3.cell 3
 have q4:=S3.cell 4
 have q5:=S3.cell 5
 have q6:=S3.cell 6
 simp only[gA,gZ,gS]at q0 q1 q2 q3 q4 q5 q6
 have hlt:=af S3.h0
 have HS3:=kH S3
 clear HM HS2 hb2 S3
 go_wp2_with fail
 refine(HCL.out _ HS3.out.kept.below).mono ?_
 rintro e w3 ⟨rfl,hb3⟩
 have S4:=HS3.out.below hb3
 clear q0 q1 q2 q3 q4 q5 q6 hlt
 have q1:=S4.cell 1
 simp only[gA,gZ,gS]at q1
 have hlt:=af S4.h0
 have HS4:=kH S4
 clear HCL HS3 hb3 S4
 go_wp2_with fail
 refine(HNM.out _ _ HS4.out).mono ?_
 rintro e w4 ⟨p,F,rfl,S5⟩
 clear q1 hlt
 have S6:=S5.sw
 have q0:=S6.cell 0
 have q1:=S6.cell 1
 have q2:=S6.cell 2
 have q3:=S6.cell 3
 have q4:=S6.cell 4
 have q5:=S6.cell 5
 have q6:=S6.cell 6
 have q7:=S6.cell 7
 simp only[gA,gZ,gS]at q0 q1 q2 q3 q4 q5 q6 q7
 have hlt:=af S6.h0
 have HPC0:=kH (HPC.out _ _ S6)
 have HPCD:=kH (fun q=>HPC.out _ _ (S6.drewN q))
 clear HNM HS4 S5 S6 HPC
 unfold ptr
 go_wp2_with fail
 go_region_held3 (fun w'=>w'.cell? ⟨w.heap.size,0,none⟩=some (.int .i64 raw)/\w'.cell? ⟨w.heap.size,1,none⟩=some (.int .i64 (r:Int))/\w'.cell? ⟨w.heap.size,2,none⟩=some (.int .i64 writes)/\w'.cell? ⟨w.heap.size,3,none⟩=some (.int .i64 stamps)/\w'.cell? ⟨w.heap.size,4,none⟩=some (.bool multi)/\w'.cell? ⟨w.heap.size,5,none⟩=some (.int .i64 tries)/\w'.cell? ⟨w.heap.size,6,none⟩=some (.slice ra rs.length rc)/\w'.cell? ⟨w.heap.size,7,none⟩=some (.slice pa progs.length pc)) (go_keep) (first|(go_at_call 33;(first|refine HPC0.out.mono ?_|refine(HPCD.out _).mono ?_);rintro e5 w5 ⟨pv',rfl,S7⟩;obtain⟨pa',pc',rfl,-,-⟩:=(show aD _ _ 1 pv' progs.length _ from S7.h0).slice;have z0:=S7.cell1 0;have z1:=S7.cell1 1;have z2:=S7.cell1 2;have z3:=S7.cell1 3;have z4:=S7.cell1 4;have z5:=S7.cell1 5;have z6:=S7.cell1 6;have z7:=S7.cell1 7;simp only[gA,gZ,gS]at z0 z1 z2 z3 z4 z5 z6 z7;have hltc:=af S7.h1;have HS7:=kH S7;clear S7))
 obtain⟨nt,hnt⟩:∃ n,tl.length=n:=⟨_,rfl⟩
 have S8:=HS7.out.new (eH (zm ⟨⟨raw,(r:Int),writes,stamps,multi,tries⟩,.slice ra rs.length rc,rs,.slice pa progs.length pc,progs,.slice ta tl.length tc,tl⟩ p (.slice ra rs.length rc) (.slice pa' progs.length pc') (.slice none 0 0)))
 unfold eH lX zm at S8
 dsimp only at S8
 unfold ptr at S8
 generalize hW6:w5.alloc _=W6 at *
 generalize w5.heap.size=wb at *
 clear hW6 z0 z1 z2 z3 z4 z5 z6 z7 hltc HS7 HPC0 HPCD
 have g6:=(S8.pull [_,_]).cell 6
 have k6:=S8.cell 6
 have kf6:=S8.froz 6
 simp only[gA,gZ,gS]at g6 k6
 have hltw:=af S8.h0
 have hlt0:=af (S8.pull [_,_]).h0
 have HRC1:=kH (HRC.out _ _ S8)
 clear S8 HRC
 go_wp2_with fail
 refine HRC1.out.mono ?_
 rintro e7 w7 ⟨rv',rfl,S9⟩
 obtain⟨ra',rc',rfl,-,-⟩:=(show aD _ _ 2 rv' rs.length _ from S9.h0).slice
 have k6':=S9.cell1 6
 have kf6':=S9.froz1 6
 simp only[gA,gZ,gS]at k6'
 have hltw':=af S9.h1
 have HS9:=kH S9
 clear S9 HRC1 g6 k6 kf6 hltw hlt0
 go_upto_region 12 with(fail)
 have S10:ah w [] [ag wb (eH (zm ⟨⟨raw,(r:Int),writes,stamps,multi,tries⟩,.slice ra rs.length rc,rs,.slice pa progs.length pc,progs,.slice ta nt tc,tl⟩ p (.slice ra' rs.length rc') (.slice pa' progs.length pc') (.slice none 0 0))),aN 60 1 (.slice none 0 0) 0 [],ag w.heap.size (jD ⟨⟨raw,(r:Int),writes,stamps,multi,tries⟩,.slice ra rs.length rc,rs,.slice pa progs.length pc,progs,.slice ta nt tc,tl⟩),aG p (gL n r) 0 F,aN 90 2 (.slice ra' rs.length rc') rs.length (rs.flatMap fun r=>[.int .i64 r.1,.int .i64 r.2]),aN 9 1 (.slice pa' progs.length pc') progs.length (progs.map .string)] (w7.setCell ⟨wb,6,none⟩ (.slice ra' rs.length rc')):=by
  have T:=HS9.out.set1 6 (.slice ra' rs.length rc')
  simp only[List.setIfInBounds_toArray,List.set_cons_zero,List.set_cons_succ]at T
  rw[hnt]at T
  have T0:ah w [] [_,_,_,_,_,_] _:=T.nilRow 60 1
  have T1:ah w [] [_,_,_,_,_,_] _:=T0.pull [_,_,_]
  have T2:ah w [] [_,_,_,_,_,_] _:=T1.pull [_,_]
  have T3:ah w [] [_,_,_,_,_,_] _:=T2.pull [_,_,_,_,_]
  have T4:ah w [] [_,_,_,_,_,_] _:=T3.pull [_,_,_,_,_]
  have T5:ah w [] [_,_,_,_,_,_] _:=T4.pull [_,_,_,_]
  have T6:ah w [] [_,_,_,_,_,_] _:=T5.pull [_,_,_,_,_]
  exact T6
 have HNT:=kH hnt
 have HTR:Hid (∀ W,Below w.heap.size w W->ct W w.heap.size (.slice ta nt tc) nt 1 (tl.map (·.1))):=fun W h=>by
  have h2:=(HSB.out W h).thr.1
  dsimp only at h2
  rw[hnt]at h2
  exact h2
 have HEA:Hid (∀ W,Below w.heap.size w W->∀ t∈tl,DO W w.heap.size t):=fun W h=>(HSB.out W h).each
 obtain⟨ti,tyi,tz0,tz1,tz2⟩:=info_parts CU
 obtain⟨ji,jyi,jz0,jz1,jz2⟩:=info_parts vR
 rw[hnt]at htc hm1
 have HS10:=kH S10
 generalize w7.setCell ⟨wb,6,none⟩ (.slice ra' rs.length rc')=W8 at *
 have q8:=(S10.pull [_,_]).cell 8
 simp only[gA,gZ,gS]at q8
 have hlt0:=af (S10.pull [_,_]).h0
 clear S10 HS9 k6' kf6' hltw' HSB hnt
 go_wp2
 go_loopg[60] (nt+1) (fun n' v60 wr=>∃ (i:Nat) (tv':Value) (l:List jy),i<=nt/\v60=.int .i64 i/\n'+i=nt+1/\l.length=i/\l.map (fun t=>ba t.jl)=(tl.take i).map (fun t=>ba t.2) /\
  ah w [] (ag wb (eH (zm ⟨⟨raw,(r:Int),writes,stamps,multi,tries⟩,.slice ra rs.length rc,rs,.slice pa progs.length pc,progs,.slice ta nt tc,tl⟩ p (.slice ra' rs.length rc') (.slice pa' progs.length pc') tv'))::aN 60 1 tv' l.length (l.map fun t=>ptr t.tb)::ag w.heap.size (jD ⟨⟨raw,(r:Int),writes,stamps,multi,tries⟩,.slice ra rs.length rc,rs,.slice pa progs.length pc,progs,.slice ta nt tc,tl⟩)::aG p (gL n r) 0 F::aN 90 2 (.slice ra' rs.length rc') rs.length (rs.flatMap fun r=>[.int .i64 r.1,.int .i64 r.2])::aN 9 1 (.slice pa' progs.length pc') progs.length (progs.map .string)::(l.flatMap py++l.flatMap rI)) wr)
 case atStart=>exact⟨0,.slice none 0 0,[],Nat.zero_le _,rfl,rfl,rfl,rfl,HS10.out⟩
 case round =>
  obtain⟨i,tv',l,hi,rfl,hn,hlen,hstr,S⟩:=hrel
  obtain⟨ta',tc',rfl,htc',-⟩:=(show aD _ _ 1 tv' l.length _ from(S.pull [_]).h0).slice
  have HN:=kH hn
  have HLN:=kH hlen
  have HST:=kH hstr
  have HSR:=kH S
  have hbel:=S.kept.below
  have hin:(i:Int)<=(nt:Int):=by omega
  have hlen8:l.length<=8:=by omega
  clear hn hlen hstr q8 hlt0 HS10
  by_cases hlt:i<nt
  ·obtain⟨⟨tv0,jl⟩,ht⟩:∃ t,tl[i]?=some t:=⟨tl[i]'(by have:=HNT.out;omega),List.getElem?_eq_getElem _⟩
   have htm:=List.mem_of_getElem? ht
   obtain⟨⟨-,ja,jc,hjv,hjc,-,-⟩,-,-⟩:=HEA.out _ hbel _ htm
   obtain⟨hj32,hjob⟩:=HMAY.out _ htm
   dsimp only at hjv hjc hj32
   subst hjv
   have HJR:Hid (∀ W,Below w.heap.size w W->ct W w.heap.size (.slice ja jl.length jc) jl.length 2 (gN jl)/\∀ j∈jl,JobR W w.heap.size j):=fun W h=>⟨(HEA.out W h _ htm).1,(HEA.out W h _ htm).2.1⟩
   have HAV:Hid (∀ j∈jl,pq j.2.2):=fun j hj=>HPL.out.av _ htm j hj
   have HJ4:Hid (∀ j∈jl,j.2.1.length<=4):=fun j hj=>(hjob j hj).2.2
   obtain⟨nj,hnj⟩:∃ n,jl.length=n:=⟨_,rfl⟩
   have HNJ:=kH hnj
   have HST':Hid (∀ jl':List (Int×List Int×Value),ba jl'=ba jl->∀ tb v,(l++[(⟨tb,v,jl'⟩:jy)]).map (fun t:jy=>ba t.jl)=(tl.take (i+1)).map (fun t:Value×List (Int×List Int×Value)=>ba t.2)):=fun jl' h tb v=>by
    rw[List.map_append,HST.out,List.take_add_one,ht,List.map_append]
    simp[h]
   obtain⟨-,a0,c0,hv0,-,-,hc0⟩:=HTR.out _ hbel
   injection hv0 with hv1 hv2 hv3
   rcases hc0 with h|⟨b,off,rfl,hbB,hcell⟩
   ·omega
   subst hv1
   have g0:=hcell i (.slice ja jl.length jc) (by rw[List.getElem?_map,ht];rfl)
   rw[hnj]at hjc HJR g0 hj32
   have q8:=(S.pull [_,_]).cell 8
   simp only[gA,gZ,gS]at q8
   have hlt0:=af (S.pull [_,_]).h0
   have hbs:b<wr.heap.size:=by have:=hbel.size;omega
   have hlt':(i:Int)<(nt:Int):=by omega
   have htcI:(nt:Int)<=(tc:Int):=by omega
   clear hcell ht hnj hv2 hv3 S hbel hjob
   go_upto_region 16 with(fail)
   have S2:=HSR.out.new (fD (zo (.slice none 0 0)))
   unfold fD gt zo at S2
   dsimp only at S2
   generalize hW9:wr.alloc _=W9 at *
   generalize wr.heap.size=tb at *
   have S3:=S2.nilRow 68 2
   have HS3:=kH S3
   clear S2 S3 hW9 g0 q8 hlt0 hbs HSR
   go_wp2
   go_loopg[68] (nj+1) (fun n' v68 ws=>∃ (k:Nat) (jv':Value) (jl':List (Int×List Int×Value)),k<=nj/\v68=.int .i64 k/\n'+k=nj+1/\jl'.length=k/\ba jl'=ba (jl.take k) /\
    ah w [] (ag tb (fD (zo jv'))::aN 68 2 jv' jl'.length (gN jl')::ag wb (eH (zm ⟨⟨raw,(r:Int),writes,stamps,multi,tries⟩,.slice ra rs.length rc,rs,.slice pa progs.length pc,progs,.slice (some ⟨b,off,none⟩) nt tc,tl⟩ p (.slice ra' rs.length rc') (.slice pa' progs.length pc') (.slice ta' l.length tc')))::aN 60 1 (.slice ta' l.length tc') l.length (l.map fun t=>ptr t.tb)::ag w.heap.size (jD ⟨⟨raw,(r:Int),writes,stamps,multi,tries⟩,.slice ra rs.length rc,rs,.slice pa progs.length pc,progs,.slice (some ⟨b,off,none⟩) nt tc,tl⟩)::aG p (gL n r) 0 F::aN 90 2 (.slice ra' rs.length rc') rs.length (rs.flatMap fun r=>[.int .i64 r.1,.int .i64 r.2])::aN 9 1 (.slice pa' progs.length pc') progs.length (progs.map .string)::(mY jl'++(l.flatMap py++l.flatMap rI))) ws)
   case atStart=>exact⟨0,.slice none 0 0,[],Nat.zero_le _,rfl,rfl,rfl,rfl,HS3.out.sw⟩
   case round =>
    obtain⟨k,jv',jl',hk,rfl,hn,hlen,hstr,S⟩:=hrel
    obtain⟨ja',jc',rfl,hjc',-⟩:=(show aD _ _ 2 jv' jl'.length _ from(S.pull [_]).h0).slice
    have HN2:=kH hn
    have HLN2:=kH hlen
    have HST2:=kH hstr
    have HS2:=kH S
    have hbel:=S.kept.below
    have hkn:(k:Int)<=(nj:Int):=by omega
    have hlen9:jl'.length<=32:=by omega
    clear hn hstr HS3 hlen
    by_cases hltk:k<nj
    ·obtain⟨⟨pg,xs,xv⟩,hj⟩:∃ j,jl[k]?=some j:=⟨jl[k]'(by have:=HNJ.out;omega),List.getElem?_eq_getElem _⟩
     have hjm:=List.mem_of_getElem? hj
     obtain⟨hjr,hje⟩:=HJR.out _ hbel
     obtain⟨hpg,-,⟨-,xa,xc,hxv,-,-,-⟩,-⟩:=hje _ hjm
     have hxl:=HJ4.out _ hjm
     have hxp:=HAV.out _ hjm
     dsimp only at hpg hxv hxl hxp
     subst hxv
     have HXR:Hid (∀ W,Below w.heap.size w W->ct W w.heap.size (.slice xa xs.length xc) xs.length 1 (bz xs)):=fun W h=>((HJR.out W h).2 _ hjm).2.2.1
     have HST3:Hid (∀ v,ba (jl'++[(pg,xs,v)])=ba (jl.take (k+1))):=fun v=>by
      have h:=HST2.out
      unfold ba at h ⊢
      rw[List.map_append,h,List.take_add_one,hj,List.map_append]
      rfl
     obtain⟨jat0,jat1⟩:=lm jl k _ hj
     obtain⟨-,b0,d0,hv0,-,-,hc0⟩:=hjr
     injection hv0 with hv1 hv2 hv3
     rcases hc0 with h|⟨b2,off2,rfl,hbB2,hcell2⟩
     ·omega
     subst hv1
     have c1:=hcell2 _ _ jat0
     have c2:wr.cell? ⟨b2,off2+k*2+1,none⟩=some (.slice xa xs.length xc):=hcell2 (k*2+1) _ jat1
     have hbs3:b2<wr.heap.size:=by have:=hbel.size;omega
     have hltk':(k:Int)<(nj:Int):=by omega
     have hjcI:(nj:Int)<=(jc:Int):=by omega
     clear hcell2 jat0 jat1 hj hv2 hv3 S hje hbel
     go_upto_region 19 with(fail)
     have S5:=HS2.out.new (.cells #[.int .i64 pg,.slice xa xs.length xc] 68 (0,0))
     generalize hW9':wr.alloc _=W10 at *
     generalize wr.heap.size=bx at *
     have x0:=S5.cell 0
     have x1:=S5.cell 1
     have t0:=S5.cell1 0
     have tf0:=S5.froz1 0
     simp only[gt,zo,gA,gZ,gS]at x0 x1 t0
     have hltx:=af S5.h0
     have hltt:=af S5.h1
     have HCA0:=kH (rE S5 (HXR.out _ S5.kept.below) hxp (by omega))
     have HCAD:=kH (fun q=>rE (S5.drewN q) (HXR.out _ (S5.drewN q).kept.below) hxp (by omega))
     have HS5:=kH S5
     clear S5 c1 c2 hbs3 hW9' HS2 hxp
     go_region_law(first|(refine step_append_lies _ rfl (.tmp 76) (.tmp 83) 61 rfl 0 68 ji _ 2 32 Tryz.underlying61 jyi jz0 jz1 jz2 rfl (by decide) (.slice ja' jl'.length jc') jl'.length (gN jl') rfl (World.ownsRow.alloc HROW.out _) ⟨w11.heap.size,0,none⟩ 1 1 [.int .i64 pg,.slice aa xs.length ac] rfl rfl (fun j u hu=>cG (ar rfl) j u hu) (by simp[Value.oneCell']) (by decide) (by unfold maxLen;omega) (by omega) (Nat.zero_le _) _ rfl ?_;intro g7 cap7 w7' hown7 hgrow7 hat7 hgl7;have S7:=((HS6.out.alloc _).pull [_,_,_]).append hgrow7 hown7 hat7 (Nat.le_refl _);have t0'':=(S7.pull [_,_,_]).cell 0;have tf0'':=(S7.pull [_,_,_]).froz 0;simp only[gt,zo,gA,gZ,gS]at t0'';have hltt'':=af (S7.pull [_,_,_]).h0;have HS7':=kH S7;clear S7 hown7 hgrow7 hat7 hgl7)|(go_simp;go_at_call 35;(first|refine HCA0.out.mono ?_|refine(HCAD.out _).mono ?_);rintro e11 w11 ⟨av',rfl,S6⟩;obtain⟨aa,ac,rfl,-,-⟩:=zQ S6;have x0':=S6.cell1 0;have x1':=S6.cell1 1;have t0':=(S6.pull [_,_]).cell 0;have tf0':=(S6.pull [_,_]).froz 0;simp only[gt,zo,gA,gZ,gS]at x0' x1' t0';have hltx':=af S6.h1;have hltt':=af (S6.pull [_,_]).h0;have HROW:Hid (aD w11 68 2 (.slice ja' jl'.length jc') jl'.length (gN jl')):=(S6.pull [_,_,_]).h0;have HS6:=kH S6;clear S6))
     all_goals
      go_wp2
      go_roundg (nj-k)
      case measure=>have:=HN2.out;omega
      case rel =>
       refine⟨k+1,.slice (some ⟨g7,0,none⟩) (jl'.length+1) cap7,jl'++[(pg,xs,.slice aa xs.length ac)],by omega,by go_num,by have:=HN2.out;omega,by rw[List.length_append,HLN2.out];rfl,HST3.out _,?_⟩
       rw[vK,sF,pH]
       exact sep_in2 ((HS7'.out.pull [_,_,_]).tset (s':=zo (.slice (some ⟨g7,0,none⟩) (jl'.length+1) cap7)) 0 (.slice (some ⟨g7,0,none⟩) (jl'.length+1) cap7) (by simp[gt,zo]))
    ·have hK:Hid (ba jl'=ba jl):=by
      have h:=HST2.out
      rw[List.take_of_length_le (by have:=HNJ.out;omega)]at h
      exact h
     have k9:=(S.pull [_,_]).cell 9
     have kf9:=(S.pull [_,_]).froz 9
     simp only[lX,zm,gA,gZ,gS]at k9
     have hltw9:=af (S.pull [_,_]).h0
     have HROWT:Hid (aD wr 60 1 (.slice ta' l.length tc') l.length (l.map fun t=>ptr t.tb)):=(S.pull [_,_,_]).h0
     obtain rfl:k=nj:=by omega
     clear S hbel
     go_wp2_with(at_builtin;go_loud (refine wpList_append_lies _ rfl (.tmp 92) (.tmp 94) 57 rfl 0 60 ti _ 1 8 Tryz.underlying57 tyi tz0 tz1 tz2 rfl (by decide) (.slice ta' l.length tc') l.length (l.map fun t=>ptr t.tb) rfl (World.ownsRow.alloc HROWT.out _) ⟨wr.heap.size,0,none⟩ 1 1 [.pointer (some ⟨tb,0,none⟩)] rfl rfl (fun j u hu=>cG (ar rfl) j u hu) (by simp[Value.oneCell']) (by decide) (by unfold maxLen;omega) (by omega) (Nat.zero_le _) _ rfl ?_);intro g8 cap8 w8 hown8 hgrow8 hat8 hgl8;have S8:=((HS2.out.alloc _).pull [_,_,_]).append hgrow8 hown8 hat8 (Nat.le_refl _);have r9:=(S8.pull [_,_,_]).cell 9;have rf9:=(S8.pull [_,_,_]).froz 9;simp only[lX,zm,gA,gZ,gS]at r9;have hlt9:=af (S8.pull [_,_,_]).h0;have HS8:=kH S8;clear S8 hown8 hgrow8 hat8 hgl8)
     go_roundg (nt-i)
     case measure=>have:=HN.out;omega
     case rel =>
      refine⟨i+1,.slice (some ⟨g8,0,none⟩) (l.length+1) cap8,l++[⟨tb,.slice ja' jl'.length jc',jl'⟩],by omega,by go_num,by have:=HN.out;omega,by rw[List.length_append,HLN.out];rfl,HST'.out jl' hK.out _ _,?_⟩
      rw[Ch,Cg,ptr_add,pH]
      exact sep_thr (((HS8.out.pull [_,_,_]).wset (s':=zm ⟨⟨raw,(r:Int),writes,stamps,multi,tries⟩,.slice ra rs.length rc,rs,.slice pa progs.length pc,progs,.slice (some ⟨b,off,none⟩) nt tc,tl⟩ p (.slice ra' rs.length rc') (.slice pa' progs.length pc') (.slice (some ⟨g8,0,none⟩) (l.length+1) cap8)) 9 (.slice (some ⟨g8,0,none⟩) (l.length+1) cap8) (by simp[lX,zm])).nilRow 74 3)
  ·have HTL:Hid (l.map (fun t=>ba t.jl)=tl.map (fun t=>ba t.2)):=by
    have h:=HST.out
    rw[List.take_of_length_le (by have:=HNT.out;omega)]at h
    exact h
   obtain rfl:i=nt:=by omega
   have q8:=(S.pull [_,_]).cell 8
   simp only[gA,gZ,gS]at q8
   have hlt0:=af (S.pull [_,_]).h0
   clear S hbel
   go_wp2
   go_ret2
   refine⟨p,wb,.slice ta' l.length tc',(.slice ra' rs.length rc'),(.slice pa' progs.length pc'),l,F,rfl,HTL.out,?_⟩
   exact(HSR.out.pull [_,_]).drop
end
def jK(e:bM):Bool:=decide (e.kind=2) && !e.own
def eg(e:bM):Bool:=decide (e.kind=3)
def aV(l:List bM):List Int:=l.foldl (fun s e=>if jK e=true then be s e.cell else s) bQ
def cn(l:List bM):List Int:=l.foldl (fun s e=>if eg e=true then be s e.cell else s) bQ
def cellsOf(l:List bM):List Int:=l.foldl (fun s e=>if eg e=true/\e.cell∉s then s++[e.cell]else s) []
theorem eP(l:List bM)(e:bM):aV (l++[e])=if jK e=true then be (aV l) e.cell else aV l:=by simp[aV,List.foldl_append]
theorem fC(l:List bM)(e:bM):cn (l++[e])=if eg e=true then be (cn l) e.cell else cn l:=by simp[cn,List.foldl_append]
theorem eW(l:List bM)(e:bM):cellsOf (l++[e])=if eg e=true/\e.cell∉cellsOf l then cellsOf l++[e.cell]else cellsOf l:=by
 unfold cellsOf
 rw[List.foldl_append]
 rfl
structure ut(t:bZ):Prop where
 head:∃ e l,t.told=e::l/\e.kind=7/\∀ y∈l,y.kind≠7
 kinds:∀ e∈t.told,e.kind≠5/\e.kind≠6/\(t.phase≠5->e.kind≠4)
 reads:t.reads=if t.phase=3 then be (aV t.told) t.cell else aV t.told
 cells:t.list.map (·.1)=cellsOf t.told
 wrote:t.wrote=cn t.told
theorem ut.add{t t':bZ}{e:bM}(h:ut t)(hp:t'.phase=5\/e.kind≠4)(hp4:t'.phase≠5->t.phase≠5)(hk:e.kind≠7/\e.kind≠5/\e.kind≠6)(ht:t'.told=t.told++[e])
  (hr:t'.reads=if t'.phase=3 then be (aV t'.told) t'.cell else aV t'.told) (hc:t'.list.map (·.1)=cellsOf t'.told) (hw:t'.wrote=cn t'.told):ut t':=by
 refine⟨?_,fun y hy=>?_,hr,hc,hw⟩
 ·obtain⟨f,l,h1,h2,h3⟩:=h.head
  refine⟨f,l++[e],by rw[ht,h1];rfl,h2,fun y hy=>?_⟩
  rcases List.mem_append.1 hy with hy|hy
  ·exact h3 y hy
  ·rw[List.mem_singleton.1 hy];exact hk.1
 ·rw[ht]at hy
  rcases List.mem_append.1 hy with hy|hy
  ·obtain⟨k1,k2,k3⟩:=h.kinds y hy
   exact⟨k1,k2,fun h5=>k3 (hp4 h5)⟩
  ·rw[List.mem_singleton.1 hy]
   refine⟨hk.2.1,hk.2.2,fun h5=>?_⟩
   rcases hp with hp|hp
   ·exact absurd hp h5
   ·exact hp
theorem ut.same{t t':bZ}(h:ut t)(h1:t'.told=t.told)(h2:t'.phase=t.phase)(h3:t'.reads=t.reads)(h4:t'.list=t.list)(h5:t'.wrote=t.wrote)(h6:t'.cell=t.cell):ut t' :=
 ⟨by rw[h1];exact h.head,by rw[h1,h2];exact h.kinds,by rw[h1,h2,h3,h6];exact h.reads,by rw[h1,h4];exact h.cells,by rw[h1,h5];exact h.wrote⟩
theorem xK(l:List (Int×Int))(c v:Int):(fT l c v).map (·.1)=if c∈l.map (·.1)then l.map (·.1)else l.map (·.1)++[c]:=by
 cases hn:(eR l c).isNone with
 | true =>
  have h:=lz hn
  rw[gU h,if_neg]
  ·simp
  ·intro hm
   obtain⟨x,hx,he⟩:=List.mem_map.1 hm
   exact h x hx he
 | false =>
  rw[gT hn,gM,if_pos]
  cases ho:eR l c with
  | none=>rw[ho]at hn;simp at hn
  | some v'=>exact List.mem_map.2 ⟨(c,v'),qA ho,rfl⟩
theorem kY{s r:Int}(hr:1<=r):0<=bI s r/\bI s r<r:=by
 unfold bI
 exact⟨Int.emod_nonneg _ (by omega),Int.emod_lt_of_pos _ (by omega)⟩
theorem nd{m:au}{s s' v:Int}(hr:1<=m.ring):(m.setHead s v).head s'=if bI s m.ring=bI s' m.ring then v else m.head s':=by
 obtain⟨a1,a2⟩:=kY (s:=s) hr
 obtain⟨b1,b2⟩:=kY (s:=s') hr
 have hl:(m.setHead s v).ring=m.ring:=by simp[au.setHead,au.ring]
 unfold au.head
 rw[hl]
 unfold au.setHead
 dsimp only
 rw[List.getD_eq_getElem?_getD,List.getElem?_set]
 split
 ·rename_i e
  rw[if_pos (show(bI s m.ring).toNat<m.heads.length by unfold au.ring at a1 a2 hr ⊢;omega),if_pos (show bI s m.ring=bI s' m.ring by omega)]
  rfl
 ·rename_i e
  rw[if_neg (show ¬bI s m.ring=bI s' m.ring by omega),<-List.getD_eq_getElem?_getD]
theorem oV{m:au}{s v s' j:Int}:(m.setHead s v).sig s' j=m.sig s' j:=by
 unfold au.sig
 have hl:(m.setHead s v).ring=m.ring:=by simp[au.setHead,au.ring]
 rw[hl]
 rfl
theorem xC{m:au}{s j v s' j':Int}(hr:1<=m.ring)(hs:m.sigs.length=8*m.heads.length)(hj:0<=j/\j<8)(hj':0<=j'/\j'<8) :
  (m.setSig s j v).sig s' j'=if bI s m.ring=bI s' m.ring/\j=j' then v else m.sig s' j':=by
 obtain⟨a1,a2⟩:=kY (s:=s) hr
 obtain⟨b1,b2⟩:=kY (s:=s') hr
 have hl:(m.setSig s j v).ring=m.ring:=rfl
 unfold au.sig
 rw[hl]
 unfold au.setSig
 dsimp only
 rw[List.getD_eq_getElem?_getD,List.getElem?_set]
 split
 ·rename_i e
  rw[if_pos (show(bI s m.ring*8+j).toNat<m.sigs.length by unfold au.ring at a1 a2 hr ⊢;omega),if_pos (show bI s m.ring=bI s' m.ring/\j=j' by omega)]
  rfl
 ·rename_i e
  rw[if_neg (show ¬(bI s m.ring=bI s' m.ring/\j=j')from fun h=>e (by rw[h.1,h.2])),<-List.getD_eq_getElem?_getD]
structure eJ(ring stamps:Int)(m:au)(P:List (List Int)):Prop where
 num:m.newest=P.length
 most:m.newest<=stamps
 rg:m.ring=ring/\1<=ring
 heads:∀ s,0<=s->0<=bK (m.head s)/\bK (m.head s)<=m.newest/\(bK (m.head s)=0\/bK (m.head s)%ring=s%ring)
 words:∀ s,0<=s->1<=bK (m.head s)->∀ j:Nat,j<8->∃ (k:Nat) (g:List Int),P[k]?=some g/\((k:Int)+1)%ring=s%ring/\bK (m.head s)<=k+1/\m.sig s j=iA (g.getD j 0)
 sigs:∀ g∈P,aU g
structure fX(ring:Int)(m:au)(P:List (List Int))(b:cR):Prop where
 pos:1<=b.stamp
 sig:P[(b.stamp-1).toNat]?=some b.sig
 new:m.newest<b.stamp+ring
 head:bK (m.head b.stamp)<=b.stamp
 open_:bK (m.head b.stamp)=b.stamp->iP (m.head b.stamp)=false
 laid:b.next=0->∀ j:Nat,j<b.laid->j<8->m.sig b.stamp j=iA (b.sig.getD j 0)
 set:b.next≠0->bK (m.head b.stamp)=b.stamp
 one:b.multi=false->b.stamp=m.newest
structure rY(m:au)(x:eD):Prop where
 seen:x.seen<=m.newest
 seen0:x.state≠0->0<=x.seen
 head:x.state=2->x.at_<=bK (m.head x.at_)
structure BR(ring stamps:Int)(m:au)(x:iG):Prop where
 chk:x.state=0->rY m x.chk
 seen:x.state=1\/x.state=2->0<=x.seen/\x.seen<stamps/\x.seen<=m.newest
 one:x.state=1->x.multi=true\/1<=x.seen
 free:x.state=2->m.newest=x.seen->(x.multi=true->gF (m.head (x.seen+1)) (x.seen+1) ring=true)/\(x.multi=false->x.seen=0\/dq (m.head x.seen) x.seen=true)
def yS(ring stamps:Int)(m:au)(P:List (List Int))(t:bZ):Prop :=
 match t.way with
 | .no=>True
 | .beg _=>True
 | .fet x=>rY m x.chk
 | .com x=>BR ring stamps m x
 | .bak b=>fX ring m P b
def bF(t:bZ):Option Int :=
 match t.way with
 | .bak b=>some b.stamp
 | _=>none
structure iw(m m':au):Prop where
 ring:m'.ring=m.ring
 new:m.newest<=m'.newest
 heads:∀ s,0<=s->bK (m.head s)<=bK (m'.head s)/\(bK (m'.head s)=bK (m.head s)->iP (m.head s)=true->iP (m'.head s)=true)
theorem iw.refl(m:au):iw m m:=⟨rfl,Int.le_refl _,fun _ _=>⟨Int.le_refl _,fun _ h=>h⟩⟩
theorem ss{m m':au}(h:iw m m'){s k:Int}(hs:0<=s)(ho:dq (m.head s) k=true):dq (m'.head s) k=true:=by
 obtain⟨h1,h2⟩:=h.heads s hs
 unfold dq at ho ⊢
 simp only[decide_eq_true_eq]at ho ⊢
 rcases ho with ho|ho|⟨ho,hd⟩
 ·exact .inl ho
 ·exact .inr (.inl (by omega))
 ·rcases(show k<bK (m'.head s)\/bK (m'.head s)=k by omega)with h3|h3
  ·exact .inr (.inl h3)
  ·exact .inr (.inr ⟨h3,h2 (by omega) hd⟩)
theorem A6{m m':au}(h:iw m m'){s r:Int}(hs:0<=s)(ho:gF (m.head s) s r=true):gF (m'.head s) s r=true:=by
 unfold gF at ho ⊢
 simp only[decide_eq_true_eq]at ho ⊢
 exact ho.imp id fun h'=>ss h hs h'
theorem rY.mono{m m':au}{x:eD}(h:rY m x)(hm:iw m m')(hat:x.state=2->0<=x.at_):rY m' x :=
 ⟨by have:=hm.new;have:=h.seen;omega,h.seen0,fun h2=>by have:=(hm.heads x.at_ (hat h2)).1;have:=h.head h2;omega⟩
theorem BR.mono{ring stamps:Int}{m m':au}{x:iG}(h:BR ring stamps m x)(hm:iw m m')(hat:x.state=0->x.chk.state=2->0<=x.chk.at_):BR ring stamps m' x:=by
 refine⟨fun h0=>(h.chk h0).mono hm (hat h0),fun h1=>?_,h.one,fun h2 hn=>?_⟩
 ·obtain⟨k1,k2,k3⟩:=h.seen h1
  have:=hm.new
  exact⟨k1,k2,by omega⟩
 ·obtain⟨k1,k2,k3⟩:=h.seen (.inr h2)
  have:=hm.new
  obtain⟨f1,f2⟩:=h.free h2 (by omega)
  exact⟨fun hmu=>A6 hm (by omega) (f1 hmu),fun hmu=>(f2 hmu).imp id fun ho=>ss hm k1 ho⟩
section
variable {ring stamps:Int}{m:au}{P:List (List Int)}
theorem tL{a b r:Int}(hr:1<=r)(h:a<b)(he:b%r=a%r):a+r<=b:=by
 obtain⟨k,hk⟩:∃ k,b-a=r*k:=by
  exact⟨(b-a)/r,by
   have h1:(b-a)%r=0:=Int.emod_eq_emod_iff_emod_sub_eq_zero.1 he
   have h2:=Int.mul_ediv_add_emod (b-a) r
   omega⟩
 have hk1:1<=k:=by
  by_cases h1:0<k
  ·omega
  ·have:r*k<=0:=Int.mul_nonpos_of_nonneg_of_nonpos (by omega) (by omega)
   omega
 have:r*1<=r*k:=Int.mul_le_mul_of_nonneg_left hk1 (by omega)
 omega
theorem lq{m:au}{a b:Int}(h:a%m.ring=b%m.ring):m.head a=m.head b:=by
 unfold au.head bI
 rw[h]
theorem Cp{m:au}{a b j:Int}(h:a%m.ring=b%m.ring):m.sig a j=m.sig b j:=by
 unfold au.sig bI
 rw[h]
def Met(P:List (List Int))(start:Int)(reads:List Int):Prop:=∃ (k:Nat) (g:List Int),P[k]?=some g/\start<k+1/\ij g reads=true
theorem jG(hM:eJ ring stamps m P):0<=m.newest:=by
 rw[hM.num]
 omega
theorem chk_g{c:eD}(hM:eJ ring stamps m P)(hk:lV c ring)(hg:rY m c) :
  rY m (aE m c).2/\((aE m c).1=bi 3->Met P c.from_ c.reads)/\((aE m c).1=bi 4->c.from_+ring<m.newest)/\((aE m c).1.kind=3->0<=(aE m c).2.seen/\(aE m c).2.seen<=m.newest)/\((aE m c).1.kind=4->(aE m c).1=bi 3\/(aE m c).1=bi 4):=by
 have hn:=jG hM
 obtain⟨hrg,hr1⟩:=hM.rg
 obtain⟨hs1,hs2⟩:=hk.state
 have hsz:=hk.size
 have hsn:=hg.seen
 unfold aE
 rw[if_neg (by omega)]
 split
 ·
  split
  ·exact⟨⟨Int.le_refl _,fun _=>hn,fun h=>by simp at h⟩,fun h=>by simp[aW,bi]at h,fun h=>by simp[aW,bi]at h,fun _=>⟨hn,Int.le_refl _⟩,fun h=>by simp[aW]at h⟩
  ·split
   ·rename_i hf
    refine⟨⟨Int.le_refl _,fun _=>hn,fun h=>by simp at h⟩,fun h=>by simp[bi]at h,fun _=>?_,fun h=>by simp[bi]at h,fun _=>.inr rfl⟩
    unfold nk at hf
    simp only[decide_eq_true_eq]at hf
    omega
   ·exact⟨⟨Int.le_refl _,fun _=>hn,fun h=>by simp at h⟩,fun h=>by simp[moved,bi]at h,fun h=>by simp[moved,bi]at h,fun h=>by simp[moved]at h,fun h=>by simp[moved]at h⟩
 ·split
  ·rename_i h0 h1
   have hs0:=hg.seen0 h0
   obtain⟨k1,k2,k3⟩:=hk.looks (.inl h1)
   have hf0:=hk.from0
   split
   ·exact⟨hg,fun h=>by simp[waits,bi]at h,fun h=>by simp[waits,bi]at h,fun h=>by simp[waits]at h,fun h=>by simp[waits]at h⟩
   ·split
    ·rename_i h2 h3
     refine⟨⟨hsn,fun _=>hs0,fun h=>by simp at h⟩,fun h=>by simp[bi]at h,fun _=>?_,fun h=>by simp[bi]at h,fun _=>.inr rfl⟩
     obtain⟨q1,q2,q3⟩:=hM.heads c.at_ (by omega)
     rcases q3 with q3|q3
     ·omega
     ·have:=tL hr1 h3 q3
      omega
    ·rename_i h2 h3
     exact⟨⟨hsn,fun _=>hs0,fun _=>by dsimp only;omega⟩,fun h=>by simp[moved,bi]at h,fun h=>by simp[moved,bi]at h,fun h=>by simp[moved]at h,fun h=>by simp[moved]at h⟩
  ·split
   ·rename_i h0 h1 h2
    have hs0:=hg.seen0 h0
    obtain⟨k1,k2,k3⟩:=hk.looks (.inr h2)
    have hf0:=hk.from0
    have hw:=hk.word2 h2
    have hhd:=hg.head h2
    split
    ·rename_i hsh
     refine⟨⟨hsn,fun _=>hs0,fun h=>by simp at h⟩,fun _=>?_,fun h=>by simp[bi]at h,fun h=>by simp[bi]at h,fun _=>.inl rfl⟩
     obtain⟨k,g,p1,p2,p3,p4⟩:=hM.words c.at_ (by omega) (by omega) c.word.toNat (by omega)
     have hj:((c.word.toNat:Nat):Int)=c.word:=by have:=hk.word;omega
     rw[hj]at p4
     rw[p4]at hsh
     exact⟨k,g,p1,by omega,rQ (hM.sigs g (List.mem_of_getElem? p1)) (by omega) hsh⟩
    ·split
     ·exact⟨⟨hsn,fun _=>hs0,fun _=>hhd⟩,fun h=>by simp[moved,bi]at h,fun h=>by simp[moved,bi]at h,fun h=>by simp[moved]at h,fun h=>by simp[moved]at h⟩
     ·split
      ·exact⟨⟨hsn,fun _=>hs0,fun h=>by simp at h⟩,fun h=>by simp[moved,bi]at h,fun h=>by simp[moved,bi]at h,fun h=>by simp[moved]at h,fun h=>by simp[moved]at h⟩
      ·split
       ·exact⟨⟨hsn,fun _=>hs0,fun h=>by simp at h⟩,fun h=>by simp[moved,bi]at h,fun h=>by simp[moved,bi]at h,fun h=>by simp[moved]at h,fun h=>by simp[moved]at h⟩
       ·exact⟨⟨hsn,fun _=>hs0,fun h=>by simp at h⟩,fun h=>by simp[aW,bi]at h,fun h=>by simp[aW,bi]at h,fun _=>⟨hs0,hsn⟩,fun h=>by simp[aW]at h⟩
   ·rename_i h0 h1 h2
    have hs0:=hg.seen0 h0
    split
    ·rename_i hf
     refine⟨⟨hsn,fun _=>hs0,fun h=>by simp at h⟩,fun h=>by simp[bi]at h,fun _=>?_,fun h=>by simp[bi]at h,fun _=>.inr rfl⟩
     unfold nk at hf
     simp only[decide_eq_true_eq]at hf
     omega
    ·exact⟨⟨hsn,fun _=>hs0,fun h=>by simp at h⟩,fun h=>by simp[aW,bi]at h,fun h=>by simp[aW,bi]at h,fun _=>⟨hs0,hsn⟩,fun h=>by simp[aW]at h⟩
theorem qK(hM:eJ ring stamps m P)(size from_:Int)(reads:List Int)(last:Bool):rY m (bJ size from_ reads last) :=
 ⟨jG hM,fun h=>by simp[bJ]at h,fun h=>by simp[bJ]at h⟩
inductive uv(ring stamps:Int)(m:au)(P:List (List Int))(c:iG):aM->iG->au->Prop
 | on {a c'}:a=moved\/a=waits->BR ring stamps m c'->uv ring stamps m P c a c' m
 | fail {e c'}:((e=3/\Met P c.chk.from_ c.chk.reads)\/(e=4/\c.chk.from_+ring<m.newest)\/(e=6/\m.newest=stamps))->c.state=0->uv ring stamps m P c (bi e) c' m
 | pub {c'}:c.state=2->m.newest<stamps->((c.multi=true->gF (m.head (m.newest+1)) (m.newest+1) ring=true)/\(c.multi=false->m.newest=0\/dq (m.head m.newest) m.newest=true)) ->
   uv ring stamps m P c (aW (m.newest+1)) c' {m with newest:=m.newest+1}
theorem com_g{c:iG}(hmem:aY m)(hM:eJ ring stamps m P)(hk:kU c ring)(hg:BR ring stamps m c)(hst:c.stamps=stamps):uv ring stamps m P c (aT m c).1 (aT m c).2.1 (aT m c).2.2:=by
 have hn:=jG hM
 obtain⟨hs1,hs2⟩:=hk.state
 unfold aT
 rw[if_neg (by omega)]
 split
 ·rename_i h0
  have hc:=hk.chk h0
  obtain⟨g1,g2,g3,g4,g5⟩:=chk_g hM hc (hg.chk h0)
  have hout:=kL hmem hc
  generalize aE m c.chk=R at *
  obtain⟨a,c1⟩:=R
  dsimp only at g1 g2 g3 g4 g5 hout ⊢
  split
  ·rename_i ha
   rcases g5 ha with rfl|rfl
   ·exact .fail (.inl ⟨rfl,g2 rfl⟩) h0
   ·exact .fail (.inr (.inl ⟨rfl,g3 rfl⟩)) h0
  ·split
   ·rename_i ha
    obtain⟨q1,q2⟩:=g4 ha
    split
    ·rename_i hs
     have hmost:=hM.most
     exact .fail (.inr (.inr ⟨rfl,by omega⟩)) h0
    ·rename_i hs
     split
     ·rename_i hm
      exact .on (.inl rfl) ⟨fun h=>by simp at h,fun _=>⟨q1,by dsimp only;omega,q2⟩,fun _=>by dsimp only;exact hm,fun h=>by simp at h⟩
     ·rename_i hm
      refine .on (.inl rfl) ⟨fun h=>by simp at h,fun _=>⟨q1,by dsimp only;omega,q2⟩,fun h=>by simp at h,fun _ _=>⟨fun hmu=>?_,fun _=>.inl ?_⟩⟩
      ·exact absurd (.inl hmu) hm
      ·dsimp only
       have:¬1<=c1.seen:=fun h=>hm (.inr h)
       omega
   ·rename_i ha3 ha4
    have ha:a=moved\/a=waits:=by
     cases hout with
     | moved=>exact .inl rfl
     | waits=>exact .inr rfl
     | done=>exact absurd rfl ha4
     | fail=>exact absurd rfl ha3
    exact .on ha ⟨fun _=>g1,fun h=>by dsimp only at h;omega,fun h=>by dsimp only at h;omega,fun h=>by dsimp only at h;omega⟩
 ·split
  ·rename_i h0 h1
   obtain⟨s1,s2,s3⟩:=hg.seen (.inl h1)
   by_cases hf:(if c.multi=true then gF (m.head (c.seen+1)) (c.seen+1) c.ring else dq (m.head c.seen) c.seen)=true
   ·rw[if_pos hf]
    refine .on (.inl rfl) ⟨fun h=>absurd (show(2:Int)=0 from h) (by decide),fun _=>⟨s1,s2,s3⟩,fun h=>absurd (show(2:Int)=1 from h) (by decide),fun _ hnew=>⟨fun hmu=>?_,fun hmu=>.inr ?_⟩⟩
    ·dsimp only at hmu ⊢
     rw[if_pos hmu]at hf
     have hr:c.ring=ring:=hk.ring
     rw[hr]at hf
     exact hf
    ·dsimp only at hmu ⊢
     rw[if_neg (by rw[hmu];decide)]at hf
     exact hf
   ·rw[if_neg hf]
    exact .on (.inr rfl) hg
  ·rename_i h0 h1
   have h2:c.state=2:=by omega
   obtain⟨s1,s2,s3⟩:=hg.seen (.inr h2)
   split
   ·rename_i he
    obtain⟨f1,f2⟩:=hg.free h2 he
    rw[<-he]at f1 f2 s2 ⊢
    exact .pub h2 s2 ⟨f1,f2⟩
   ·refine .on (.inl rfl) ⟨fun _=>qK hM _ _ _ _,fun h=>by simp at h,fun h=>by simp at h,fun h=>by simp at h⟩
end
section
variable {ring stamps:Int}{m:au}{P:List (List Int)}
theorem gd(b:cR):(cW b).next≠0:=by
 unfold cW
 dsimp only
 split
 ·decide
 ·split<;>decide
theorem qF(b:cR)(s:Int):(dj b s).next≠0:=by
 unfold dj
 split
 ·exact gd _
 ·exact Nat.succ_ne_zero 0
theorem mR(b:cR)(j:Nat):(cV b j).next≠0:=by
 unfold cV
 split
 ·exact Nat.succ_ne_zero 1
 ·exact qF _ _
theorem oU(s:Int)(d:Bool):bK (ea s d)=s/\iP (ea s d)=d:=by
 unfold bK ea iP
 cases d
 ·simp only[Bool.false_eq_true,if_false]
  exact⟨by omega,by rw[decide_eq_false];omega⟩
 ·simp only[if_true]
  exact⟨by omega,by rw[decide_eq_true];omega⟩
theorem fX.le{b:cR}(h:fX ring m P b)(hM:eJ ring stamps m P):b.stamp<=m.newest:=by
 have h1:=(List.getElem?_eq_some_iff.1 h.sig).1
 have h2:=hM.num
 have h3:=h.pos
 omega
theorem kZ{a b r:Int}(h:bI a r=bI b r):a%r=b%r:=h
theorem sR{b b2:cR}(hM:eJ ring stamps m P)(h:fX ring m P b)(h2:fX ring m P b2)(hne:b2.stamp≠b.stamp):¬bI b.stamp m.ring=bI b2.stamp m.ring:=fun e=>by
 obtain⟨r1,r2⟩:=hM.rg
 rw[r1]at e
 have e1:=h.le hM
 have e2:=h2.le hM
 have e3:=h.new
 have e4:=h2.new
 rcases(show b.stamp<b2.stamp\/b2.stamp<b.stamp by omega)with hl|hl
 ·have:=tL r2 hl (kZ e).symm
  omega
 ·have:=tL r2 hl (kZ e)
  omega
theorem eJ.same{m':au}(h:eJ ring stamps m P)(h1:m'.newest=m.newest)(h2:m'.heads=m.heads)(h3:m'.sigs=m.sigs):eJ ring stamps m' P:=by
 have hr:m'.ring=m.ring:=by unfold au.ring;rw[h2]
 have hh:∀ s,m'.head s=m.head s:=fun s=>by unfold au.head;rw[hr,h2]
 have hs:∀ s j,m'.sig s j=m.sig s j:=fun s j=>by unfold au.sig;rw[hr,h3]
 exact⟨by rw[h1];exact h.num,by rw[h1];exact h.most,by rw[hr];exact h.rg,fun s h0=>by rw[hh,h1];exact h.heads s h0,fun s h0 hp j hj=>by rw[hh]at hp ⊢;rw[hs];exact h.words s h0 hp j hj,h.sigs⟩
theorem iw.same{m':au}(h1:m'.newest=m.newest)(h2:m'.heads=m.heads):iw m m':=by
 have hr:m'.ring=m.ring:=by unfold au.ring;rw[h2]
 have hh:∀ s,m'.head s=m.head s:=fun s=>by unfold au.head;rw[hr,h2]
 exact⟨hr,by omega,fun s _=>by rw[hh];exact⟨Int.le_refl _,fun _ h=>h⟩⟩
theorem fX.same{m':au}{b:cR}(h:fX ring m P b)(h1:m'.newest=m.newest)(h2:m'.heads=m.heads)(h3:m'.sigs=m.sigs):fX ring m' P b:=by
 have hr:m'.ring=m.ring:=by unfold au.ring;rw[h2]
 have hh:∀ s,m'.head s=m.head s:=fun s=>by unfold au.head;rw[hr,h2]
 have hs:∀ s j,m'.sig s j=m.sig s j:=fun s j=>by unfold au.sig;rw[hr,h3]
 exact⟨h.pos,h.sig,by rw[h1];exact h.new,by rw[hh];exact h.head,by rw[hh];exact h.open_,fun h0 j hj h8=>by rw[hs];exact h.laid h0 j hj h8,fun h0=>by rw[hh];exact h.set h0,fun h0=>by rw[h1];exact h.one h0⟩
theorem fX.go{b b':cR}(h:fX ring m P b)(h0:b.next≠0)(h1:b'.stamp=b.stamp)(h2:b'.sig=b.sig)(h3:b'.multi=b.multi)(h4:b'.next≠0):fX ring m P b' :=
 ⟨by rw[h1];exact h.pos,by rw[h1,h2];exact h.sig,by rw[h1];exact h.new,by rw[h1];exact h.head,by rw[h1];exact h.open_,fun h5=>absurd h5 h4,fun _=>by rw[h1];exact h.set h0,fun h5=>by rw[h1];exact h.one (by rw[<-h3];exact h5)⟩
structure Ea(ring stamps:Int)(m m':au)(P:List (List Int))(b b':cR)(a:aM):Prop where
 mem:eJ ring stamps m' P
 le:iw m m'
 self:a.kind≠3->fX ring m' P b'
 other:∀ b2,fX ring m P b2->b2.stamp≠b.stamp->fX ring m' P b2
 kind:a.kind≠4
theorem ff{b b':cR}{a:aM}(hM:eJ ring stamps m P)(hg:fX ring m P b)(h0:b.next≠0)(h1:b'.stamp=b.stamp)(h2:b'.sig=b.sig)(h3:b'.multi=b.multi)(h4:b'.next≠0)(hk:a.kind≠4):Ea ring stamps m m P b b' a :=
 ⟨hM,iw.refl m,fun _=>hg.go h0 h1 h2 h3 h4,fun b2 h _=>h,hk⟩
theorem jr{s s' v:Int}(hM:eJ ring stamps m P)(h:¬bI s m.ring=bI s' m.ring):(m.setHead s v).head s'=m.head s':=by
 rw[nd (by rw[hM.rg.1];exact hM.rg.2),if_neg h]
theorem lr{s s' v:Int}(hM:eJ ring stamps m P)(h:bI s m.ring=bI s' m.ring):(m.setHead s v).head s'=v:=by
 rw[nd (by rw[hM.rg.1];exact hM.rg.2),if_pos h]
theorem mJ(m:au)(s v:Int):(m.setHead s v).ring=m.ring:=by simp[au.setHead,au.ring]
theorem so{b:cR}{d:Bool}(hM:eJ ring stamps m P)(hg:fX ring m P b)(hw:∀ j:Nat,j<8->m.sig b.stamp j=iA (b.sig.getD j 0)\/bK (m.head b.stamp)=b.stamp) :
  eJ ring stamps (m.setHead b.stamp (ea b.stamp d)) P/\iw m (m.setHead b.stamp (ea b.stamp d))/\∀ b2,fX ring m P b2->b2.stamp≠b.stamp->fX ring (m.setHead b.stamp (ea b.stamp d)) P b2:=by
 obtain⟨r1,r2⟩:=hM.rg
 obtain⟨k1,k2⟩:=oU b.stamp d
 have hle:=hg.le hM
 have hpos:=hg.pos
 refine⟨⟨hM.num,hM.most,⟨by rw[mJ];exact r1,r2⟩,fun s h0=>?_,fun s h0 hp j hj=>?_,hM.sigs⟩,⟨mJ _ _ _,Int.le_refl _,fun s h0=>?_⟩,fun b2 h2 hne=>?_⟩
 ·by_cases e:bI b.stamp m.ring=bI s m.ring
  ·rw[lr hM e,k1]
   refine⟨by omega,hle,.inr ?_⟩
   rw[r1]at e
   exact kZ e
  ·rw[jr hM e]
   exact hM.heads s h0
 ·rw[oV]
  by_cases e:bI b.stamp m.ring=bI s m.ring
  ·rw[lr hM e]at hp ⊢
   rw[k1]at hp ⊢
   have e2:b.stamp%ring=s%ring:=by rw[r1]at e;exact kZ e
   rcases hw j hj with hw|hw
   ·refine⟨(b.stamp-1).toNat,b.sig,hg.sig,?_,by omega,?_⟩
    ·rw[<-e2]
     congr 1
     omega
    ·rw[<-Cp (a:=b.stamp) (b:=s) (by rw[r1];exact e2)]
     exact hw
   ·have hh:m.head s=m.head b.stamp:=lq (by rw[r1];exact e2.symm)
    obtain⟨k,g,p1,p2,p3,p4⟩:=hM.words s h0 (by rw[hh,hw];omega) j hj
    exact⟨k,g,p1,p2,by rw[hh,hw]at p3;exact p3,p4⟩
  ·rw[jr hM e]at hp ⊢
   exact hM.words s h0 hp j hj
 ·by_cases e:bI b.stamp m.ring=bI s m.ring
  ·rw[lr hM e,k1,k2]
   have hh:m.head s=m.head b.stamp:=lq (kZ e).symm
   rw[hh]
   refine⟨hg.head,fun h1 h2=>?_⟩
   rw[hg.open_ h1.symm]at h2
   simp at h2
  ·rw[jr hM e]
   exact⟨Int.le_refl _,fun _ h=>h⟩
 ·have e:=sR hM hg h2 hne
  refine⟨h2.pos,h2.sig,h2.new,by rw[jr hM e];exact h2.head,by rw[jr hM e];exact h2.open_,fun h5 j hj h8=>by rw[oV];exact h2.laid h5 j hj h8,fun h5=>by rw[jr hM e];exact h2.set h5,h2.one⟩
theorem Cu{b:cR}(hmem:aY m)(hM:eJ ring stamps m P)(hg:fX ring m P b){q:Nat}(hq:q<8) :
  eJ ring stamps (m.setSig b.stamp q (iA (b.sig.getD q 0))) P/\iw m (m.setSig b.stamp q (iA (b.sig.getD q 0)))/\(∀ b2,fX ring m P b2->b2.stamp≠b.stamp->fX ring (m.setSig b.stamp q (iA (b.sig.getD q 0))) P b2) /\
   ∀ j:Nat,j<8->(m.setSig b.stamp q (iA (b.sig.getD q 0))).sig b.stamp j=if q=j then iA (b.sig.getD q 0)else m.sig b.stamp j:=by
 obtain⟨r1,r2⟩:=hM.rg
 have hr1:1<=m.ring:=by rw[r1];exact r2
 have hss:∀ s (j:Nat),j<8->(m.setSig b.stamp q (iA (b.sig.getD q 0))).sig s j=if bI b.stamp m.ring=bI s m.ring/\(q:Int)=j then iA (b.sig.getD q 0)else m.sig s j:=fun s j hj =>
  xC hr1 hmem.sigs ⟨by omega,by omega⟩ ⟨by omega,by omega⟩
 have hpos:=hg.pos
 refine⟨⟨hM.num,hM.most,⟨r1,r2⟩,hM.heads,fun s h0 hp j hj=>?_,hM.sigs⟩,⟨rfl,Int.le_refl _,fun s _=>⟨Int.le_refl _,fun _ h=>h⟩⟩,fun b2 h2 hne=>?_,fun j hj=>?_⟩
 ·rw[hss s j hj]
  split
  ·rename_i e
   have e2:b.stamp%ring=s%ring:=by rw[r1]at e;exact kZ e.1
   have hh:m.head s=m.head b.stamp:=lq (by rw[r1];exact e2.symm)
   refine⟨(b.stamp-1).toNat,b.sig,hg.sig,?_,?_,by rw[show q=j by omega]⟩
   ·rw[<-e2]
    congr 1
    omega
   ·show bK (m.head s)<=_
    rw[hh]
    have:=hg.head
    omega
  ·exact hM.words s h0 hp j hj
 ·have e:=sR hM hg h2 hne
  refine⟨h2.pos,h2.sig,h2.new,h2.head,h2.open_,fun h5 j hj h8=>?_,h2.set,h2.one⟩
  rw[hss b2.stamp j h8,if_neg (fun h=>e h.1)]
  exact h2.laid h5 j hj h8
 ·rw[hss b.stamp j hj]
  by_cases hqj:q=j
  ·rw[if_pos ⟨rfl,by omega⟩,if_pos hqj]
  ·rw[if_neg (fun h=>hqj (by omega)),if_neg hqj]
theorem bak_g{b:cR}(hmem:aY m)(hM:eJ ring stamps m P)(hk:fo b m ring)(hg:fX ring m P b):Ea ring stamps m (aR m b).2.2 P b (aR m b).2.1 (aR m b).1:=by
 have hnx:=hk.next
 have hpos:=hg.pos
 unfold aR
 split
 ·rename_i h0
  split
  ·rename_i hl
   obtain⟨s1,s2,s3,s4⟩:=Cu hmem hM hg hl
   refine⟨s1,s2,fun _=>⟨hg.pos,hg.sig,hg.new,hg.head,hg.open_,fun _ j hj h8=>?_,fun h=>absurd h0 h,hg.one⟩,s3,by simp[moved]⟩
   dsimp only at hj ⊢
   rw[s4 j h8]
   by_cases e:b.laid=j
   ·rw[if_pos e,e]
   ·rw[if_neg e]
    exact hg.laid h0 j (by omega) h8
  ·rename_i hl
   have hl8:=hk.laid
   obtain⟨s1,s2,s3⟩:=so (d:=false) hM hg (fun j hj=>.inl (hg.laid h0 j (by omega) hj))
   obtain⟨k1,k2⟩:=oU b.stamp false
   have hn:(if b.known=true then cW b else dj b (b.stamp-1)).next≠0:=by
    split
    ·exact gd _
    ·exact qF _ _
   have hkp:(if b.known=true then cW b else dj b (b.stamp-1)).stamp=b.stamp/\(if b.known=true then cW b else dj b (b.stamp-1)).multi=b.multi/\(if b.known=true then cW b else dj b (b.stamp-1)).sig=b.sig:=by
    split
    ·exact qv b
    ·exact md b _
   dsimp only
   generalize (if b.known=true then cW b else dj b (b.stamp-1))=b' at *
   obtain⟨q1,q2,q3⟩:=hkp
   have hh:(m.setHead b.stamp (ea b.stamp false)).head b.stamp=ea b.stamp false:=lr hM rfl
   exact⟨s1,s2,fun _=>⟨by rw[q1];exact hg.pos,by rw[q1,q3];exact hg.sig,by rw[q1];exact hg.new,by rw[q1,hh,k1];exact Int.le_refl _,fun _=>by rw[q1,hh];exact k2,fun h=>absurd h hn,fun _=>by rw[q1,hh];exact k1,fun h=>by rw[q1];exact hg.one (by rw[<-q2];exact h)⟩,s3,by simp[moved]⟩
 ·rename_i h1
  have h0:b.next≠0:=by omega
  split
  ·exact ff hM hg h0 rfl rfl rfl (gd _) (by simp[moved])
  ·split
   ·obtain⟨q1,q2,q3⟩:=gH b 0
    exact ff hM hg h0 q1 q3 q2 (mR _ _) (by simp[moved])
   ·exact ff hM hg h0 rfl rfl rfl h0 (by simp[waits])
 ·rename_i h1
  have h0:b.next≠0:=by omega
  split
  ·exact ff hM hg h0 rfl rfl rfl (Nat.succ_ne_zero 2) (by simp[moved])
  ·obtain⟨q1,q2,q3⟩:=gH b (b.word.toNat+1)
   exact ff hM hg h0 q1 q3 q2 (mR _ _) (by simp[moved])
 ·rename_i h1
  have h0:b.next≠0:=by omega
  split
  ·exact ff hM hg h0 rfl rfl rfl (gd _) (by simp[moved])
  ·exact ff hM hg h0 rfl rfl rfl h0 (by simp[waits])
 ·rename_i h1
  have h0:b.next≠0:=by omega
  refine⟨hM.same rfl rfl rfl,iw.same rfl rfl,fun _=>(hg.same (m':=m.setCell (b.l.getD (b.l.length-b.left) (0,0)).1 (b.l.getD (b.l.length-b.left) (0,0)).2) rfl rfl rfl).go (b':=cW {b with left:=b.left-1}) h0 rfl rfl rfl (gd _),fun b2 h _=>h.same rfl rfl rfl,by simp[moved]⟩
 ·rename_i h1
  have h0:b.next≠0:=by omega
  split
  ·exact ff hM hg h0 rfl rfl rfl (gd _) (by simp[moved])
  ·exact ff hM hg h0 rfl rfl rfl h0 (by simp[waits])
 ·rename_i h1
  have h0:b.next≠0:=by omega
  obtain⟨s1,s2,s3⟩:=so (d:=true) hM hg (fun j hj=>.inr (hg.set h0))
  exact⟨s1,s2,fun h=>absurd rfl h,s3,by simp[aW]⟩
 ·rename_i h1 h2 h3 h4 h5 h6 h7
  exfalso
  rcases(show b.next=0\/b.next=1\/b.next=2\/b.next=3\/b.next=4\/b.next=5\/b.next=6 by omega)with h|h|h|h|h|h|h
  ·exact h1 h
  ·exact h2 h
  ·exact h3 h
  ·exact h4 h
  ·exact h5 h
  ·exact h6 h
  ·exact h7 h
end
section
variable {ring stamps:Int}{m:au}{P:List (List Int)}
theorem CC{b:cR}(h:fX ring m P b):dq (m.head b.stamp) b.stamp=false:=by
 have h1:=h.pos
 have h2:=h.head
 have h3:=h.open_
 unfold dq
 rw[decide_eq_false_iff_not]
 rintro(h4|h4|⟨h4,h5⟩)
 ·omega
 ·omega
 ·rw[h3 h4]at h5
  simp at h5
theorem pub_g{sig:List Int}{multi:Bool}(hM:eJ ring stamps m P)(hs:aU sig)(hlt:m.newest<stamps)(hf:(multi=true->gF (m.head (m.newest+1)) (m.newest+1) ring=true)/\(multi=false->m.newest=0\/dq (m.head m.newest) m.newest=true)) :
  eJ ring stamps {m with newest:=m.newest+1} (P++[sig])/\iw m {m with newest:=m.newest+1}/\∀ b2,fX ring m P b2->b2.multi=multi->fX ring {m with newest:=m.newest+1} (P++[sig]) b2:=by
 obtain⟨r1,r2⟩:=hM.rg
 refine⟨⟨?_,by dsimp only;omega,hM.rg,fun s h0=>?_,fun s h0 hp j hj=>?_,fun g hg=>?_⟩,⟨rfl,by dsimp only;omega,fun s _=>⟨Int.le_refl _,fun _ h=>h⟩⟩,fun b2 h2 hmu=>?_⟩
 ·have:=hM.num
  simp only[List.length_append,List.length_singleton]
  omega
 ·obtain⟨k1,k2,k3⟩:=hM.heads s h0
  exact⟨k1,by dsimp only;have:bK (m.head s)<=m.newest:=k2;show bK (m.head s)<=m.newest+1;omega,k3⟩
 ·obtain⟨k,g,p1,p2,p3,p4⟩:=hM.words s h0 hp j hj
  exact⟨k,g,by rw[List.getElem?_append_left (List.getElem?_eq_some_iff.1 p1).1];exact p1,p2,p3,p4⟩
 ·rcases List.mem_append.1 hg with hg|hg
  ·exact hM.sigs g hg
  ·rw[List.mem_singleton.1 hg];exact hs
 ·have hle:=h2.le hM
  have hno:=CC h2
  have hnew:=h2.new
  have hpos:=h2.pos
  have hn:m.newest+1<b2.stamp+ring:=by
   rcases(show m.newest+1<b2.stamp+ring\/m.newest+1=b2.stamp+ring by omega)with h|h
   ·exact h
   ·exfalso
    cases hm:multi with
    | true =>
     have h3:=hf.1 hm
     unfold gF at h3
     simp only[decide_eq_true_eq]at h3
     rcases h3 with h3|h3
     ·omega
     ·rw[show m.newest+1-ring=b2.stamp by omega]at h3
      have hh:m.head (m.newest+1)=m.head b2.stamp:=lq (by rw[h,r1];simp)
      rw[hh,hno]at h3
      simp at h3
    | false =>
     have h5:=h2.one (hmu.trans hm)
     rcases hf.2 hm with h3|h3
     ·omega
     ·rw[<-h5,hno]at h3
      simp at h3
  refine⟨h2.pos,by rw[List.getElem?_append_left (List.getElem?_eq_some_iff.1 h2.sig).1];exact h2.sig,hn,h2.head,h2.open_,h2.laid,h2.set,fun hone=>?_⟩
  exfalso
  have h5:=h2.one hone
  rcases hf.2 (hmu▸hone)with h3|h3
  ·omega
  ·rw[<-h5,hno]at h3
   simp at h3
theorem CF{multi:Bool}{l:List (Int×Int)}(hM:eJ ring stamps m P):fX ring {m with newest:=m.newest+1} (P++[dZ l]) (cX ring multi (m.newest+1) l):=by
 obtain⟨r1,r2⟩:=hM.rg
 have hn:=jG hM
 have hnum:=hM.num
 obtain⟨k1,k2,k3⟩:=hM.heads (m.newest+1) (by omega)
 have hh:∀ s,({m with newest:=m.newest+1}:au).head s=m.head s:=fun _=>rfl
 refine⟨by simp only[cX];omega,?_,by simp only[cX];omega,?_,fun h=>?_,fun _ j hj=>by simp[cX]at hj,fun h=>absurd rfl h,fun _=>rfl⟩
 ·show(P++[dZ l])[(m.newest+1-1).toNat]?=some (dZ l)
  rw[show(m.newest+1-1).toNat=P.length by omega]
  simp
 ·show bK (m.head (m.newest+1))<=m.newest+1
  omega
 ·have h2:bK (m.head (m.newest+1))=m.newest+1:=h
  omega
structure TG(c:cN)(m:au)(P:List (List Int))(t:bZ):Prop where
 ok:dM c t m
 live:t.phase≠0->ut t
 sig:t.wrote=dZ t.list
 way:yS c.ring c.stamps m P t
def EndOk(c:cN)(m:au)(P:List (List Int))(t:bZ)(e:bM):Prop :=
 e.kind=6/\e.sig=t.reads/\e.start=t.start/\t.phase≠0/\t.phase≠5 /\
  ((e.err=0/\t.list=[]/\t.phase=2)\/(e.err=3/\Met P t.start t.reads)\/(e.err=4/\t.start+c.ring<m.newest)\/(e.err=5/\(t.list.length:Int)=c.writes)\/(e.err=6/\m.newest=c.stamps/\t.list≠[])\/e.err=7\/e.err=8)
inductive EvG(c:cN)(m:au)(P:List (List Int))(t:bZ):List bM->bZ->List (List Int)->Prop
 | none {t'}:t'.phase=t.phase->t.phase≠0->EvG c m P t [] t' P
 | got {e t'}:(e.kind=1\/e.kind=2)->t'.phase=2->t.phase≠0->EvG c m P t [e] t' P
 | pub {e t'}:e.kind=4->e.stamp=(P.length:Int)+1->e.sig=t.wrote->t.phase=4->t'.phase=5->EvG c m P t [e] t' (P++[t.wrote])
 | done {e t'}:e.kind=5->t.phase=5->t'.phase=0->EvG c m P t [e] t' P
 | fail {e t'}:EndOk c m P t e->t'.phase=0->EvG c m P t [e] t' P
end
section
variable {c:cN}{m m':au}{P P':List (List Int)}
theorem zy{t2:bZ}(h2:TG c m P t2)(hle:iw m m')(hcl:m'.cells.length=m.cells.length)(hb:∀ b,t2.way=.bak b->fX c.ring m' P' b):TG c m' P' t2:=by
 refine⟨h2.ok.mem hle.ring hcl,h2.live,h2.sig,?_⟩
 have hw:=h2.way
 have ho:=h2.ok.way
 unfold yS at *
 unfold kc at ho
 split
 ·trivial
 ·trivial
 ·rename_i x e
  rw[e]at hw ho
  dsimp only at hw ho
  obtain⟨-,hx,-⟩:=ho
  exact hw.mono hle (fun hs=>by have:=hx.chk.looks (.inr hs);have:=hx.chk.from0;omega)
 ·rename_i x e
  rw[e]at hw ho
  dsimp only at hw ho
  obtain⟨-,hx,-⟩:=ho
  exact hw.mono hle (fun h0 hs=>by have:=(hx.chk h0).looks (.inr hs);have:=(hx.chk h0).from0;omega)
 ·rename_i b e
  exact hb b e
theorem xM{t':bZ}(h:dM c t' m)(h1:t'.phase=0)(h2:t'.wrote=bQ)(h3:t'.list=[])(h4:t'.way=.no):TG c m P t' :=
 ⟨h,fun hp=>absurd h1 hp,by rw[h2,h3];rfl,by unfold yS;rw[h4];trivial⟩
structure StepG(c:cN)(m m':au)(P P':List (List Int))(t t':bZ)(new:List bM):Prop where
 told:t'.told=t.told++new
 ev:EvG c m P t new t' P'
 mem:eJ c.ring c.stamps m' P'
 self:TG c m' P' t'
 other:∀ t2,TG c m P t2->t2.multi=t.multi->(∀ s,bF t=some s->bF t2≠some s)->TG c m' P' t2
inductive uu(ring:Int)(m:au)(P:List (List Int))(x:lL):aM->lL->Prop
 | on {a x'}:a=moved\/a=waits->rY m x'.chk->uu ring m P x a x'
 | done {v x'}:uu ring m P x (aW v) x'
 | fail {e x'}:((e=3/\Met P x.chk.from_ x.chk.reads)\/(e=4/\x.chk.from_+ring<m.newest))->uu ring m P x (bi e) x'
theorem fet_g{ring stamps:Int}{x:lL}(hmem:aY m)(hM:eJ ring stamps m P)(hk:ry x m ring)(hg:rY m x.chk):uu ring m P x (bj m x).1 (bj m x).2:=by
 unfold bj
 split
 ·exact .on (.inl rfl) hg
 ·obtain⟨g1,g2,g3,g4,g5⟩:=chk_g hM hk.chk hg
  have hout:=kL hmem hk.chk
  generalize aE m x.chk=R at *
  obtain⟨a,c1⟩:=R
  dsimp only at g1 g2 g3 g4 g5 hout ⊢
  cases hout with
  | moved=>exact .on (.inl rfl) g1
  | waits=>exact .on (.inr rfl) g1
  | done=>exact .done
  | @fail e _ he =>
   rcases he with rfl|rfl
   ·exact .fail (.inl ⟨rfl,g2 rfl⟩)
   ·exact .fail (.inr ⟨rfl,g3 rfl⟩)
theorem qV{t:bZ}{r:Int}{acc:Bool}(h:dM c (de t r acc).2 m):TG c m P (de t r acc).2:=xM h rfl rfl rfl rfl
theorem tx_g{t:bZ}(hc:co c)(hmem:aY m)(hM:eJ c.ring c.stamps m P)(h:TG c m P t)(hw:t.way≠.no):∃ new P',StepG c m (aP m t).2.2 P P' t (aP m t).2.1 new:=by
 obtain⟨new0,-,-,hok',hmem',hr',hcl'⟩:=iJ hc hmem h.ok hw
 have hsig:=h.sig
 have hliv:=h.live
 have hwg:=h.way
 have hoth0:∀ t2,TG c m P t2->t2.multi=t.multi->(∀ s,bF t=some s->bF t2≠some s)->TG c m P t2:=fun t2 h2 _ _=>h2
 have hok:=h.ok
 obtain⟨ring,writes,stamps,multi,list,wrote,phase,start,seen,reads,cell,stamp,way,told⟩:=t
 have hcfg:=hok.cfg
 have hway:=hok.way
 dsimp only at hcfg hsig hliv
 obtain⟨g1,g2,g3,g4⟩:=hcfg
 unfold yS at hwg
 unfold kc at hway
 match way,hway,hwg,hw with
 | .no,_,_,hw=>exact absurd rfl hw
 | .beg b,hway,_,_ =>
  obtain⟨hp,hb⟩:=hway
  dsimp only at hp hb
  have hlv:=hliv (by omega)
  have hs:=nE hmem hb
  unfold aP eF at hok' hmem' hr' hcl' ⊢
  dsimp only at hok' hmem' hr' hcl' ⊢
  generalize bU m b=R at *
  obtain⟨a,b'⟩:=R
  dsimp only at hs hok' hmem' hr' hcl' ⊢
  rcases hs with⟨rfl,k⟩|⟨rfl,k1,k2,k3,k4⟩
  ·exact⟨[],P,by simp[moved],.none rfl (by dsimp only;omega),hM,⟨hok',fun _=>hlv.same rfl rfl rfl rfl rfl rfl,hsig,trivial⟩,hoth0⟩
  ·refine⟨[_],P,rfl,.got (.inl rfl) rfl (by dsimp only;omega),hM,⟨hok',fun _=>hlv.add (.inr (show(1:Int)≠4 by decide)) (fun _=>by dsimp only;omega) ⟨show(1:Int)≠7 by decide,show(1:Int)≠5 by decide,show(1:Int)≠6 by decide⟩ rfl ?_ ?_ ?_,hsig,trivial⟩,hoth0⟩
   ·have hr:=hlv.reads
    dsimp only at hr
    rw[if_neg (by omega)]at hr
    show reads=if(2:Int)=3 then _ else aV (told++[_])
    rw[if_neg (by decide),eP,if_neg (by simp[jK,fd])]
    exact hr
   ·show list.map (·.1)=cellsOf (told++[_])
    rw[eW,if_neg (by simp[eg,fd])]
    exact hlv.cells
   ·show wrote=cn (told++[_])
    rw[fC,if_neg (by simp[eg,fd])]
    exact hlv.wrote
 | .fet x,hway,hwg,_ =>
  obtain⟨hp,hx,e1,e2,e3⟩:=hway
  dsimp only at hp hx e1 e2 e3 hwg
  have hlv:=hliv (by omega)
  rw[g1]at hx
  have hres:=fet_g hmem hM hx hwg
  unfold aP eF at hok' hmem' hr' hcl' ⊢
  dsimp only at hok' hmem' hr' hcl' ⊢
  generalize bj m x=R at *
  obtain⟨a,x'⟩:=R
  dsimp only at hres hok' hmem' hr' hcl' ⊢
  cases hres with
  | on ha hg =>
   rcases ha with rfl|rfl
   ·exact⟨[],P,by simp[moved],.none rfl (by dsimp only;omega),hM,⟨hok',fun _=>hlv.same rfl rfl rfl rfl rfl rfl,hsig,hg⟩,hoth0⟩
   ·exact⟨[],P,by simp[waits],.none rfl (by dsimp only;omega),hM,⟨hok',fun _=>hlv.same rfl rfl rfl rfl rfl rfl,hsig,hg⟩,hoth0⟩
  | done =>
   refine⟨[_],P,rfl,.got (.inr rfl) rfl (by dsimp only;omega),hM,⟨hok',fun _=>hlv.add (.inr (show(2:Int)≠4 by decide)) (fun _=>by dsimp only;omega) ⟨show(2:Int)≠7 by decide,show(2:Int)≠5 by decide,show(2:Int)≠6 by decide⟩ rfl ?_ ?_ ?_,hsig,trivial⟩,hoth0⟩
   ·have hr:=hlv.reads
    dsimp only at hr
    rw[if_pos hp]at hr
    show reads=if(2:Int)=3 then _ else aV (told++[_])
    rw[if_neg (by decide),eP]
    exact hr.trans (if_pos (by rfl)).symm
   ·show list.map (·.1)=cellsOf (told++[_])
    rw[eW,if_neg (by simp[eg])]
    exact hlv.cells
   ·show wrote=cn (told++[_])
    rw[fC,if_neg (by simp[eg])]
    exact hlv.wrote
  | @fail e _ he =>
   refine⟨[{fd with kind:=6,err:=e,start:=start,seen:=seen,sig:=reads}],P,?_,.fail ⟨rfl,rfl,rfl,by dsimp only;omega,by dsimp only;omega,?_⟩ rfl,hM,qV hok',hoth0⟩
   ·rfl
   ·rcases he with⟨rfl,hm⟩|⟨rfl,hm⟩
    ·rw[e1,e2]at hm
     exact .inr (.inl ⟨rfl,hm⟩)
    ·rw[e1]at hm
     exact .inr (.inr (.inl ⟨rfl,hm⟩))
 | .com x,hway,hwg,_ =>
  obtain⟨hp,hx,e1,e2,e3,e4,e5,e6⟩:=hway
  dsimp only at hp hx e1 e2 e3 e4 e5 e6 hwg
  have hlv:=hliv (by omega)
  rw[g1]at hx
  have hres:=com_g hmem hM hx hwg (e3.trans g3)
  unfold aP eF at hok' hmem' hr' hcl' ⊢
  dsimp only at hok' hmem' hr' hcl' ⊢
  generalize aT m x=R at *
  obtain⟨a,x',m1⟩:=R
  dsimp only at hres hok' hmem' hr' hcl' ⊢
  cases hres with
  | on ha hg =>
   rcases ha with rfl|rfl
   ·exact⟨[],P,by simp[moved],.none rfl (by dsimp only;omega),hM,⟨hok',fun _=>hlv.same rfl rfl rfl rfl rfl rfl,hsig,hg⟩,hoth0⟩
   ·exact⟨[],P,by simp[waits],.none rfl (by dsimp only;omega),hM,⟨hok',fun _=>hlv.same rfl rfl rfl rfl rfl rfl,hsig,hg⟩,hoth0⟩
  | @fail e _ he h0 =>
   obtain⟨f1,f2,f3⟩:=e5 h0
   refine⟨[{fd with kind:=6,err:=e,start:=start,seen:=seen,sig:=reads}],P,?_,.fail ⟨rfl,rfl,rfl,by dsimp only;omega,by dsimp only;omega,?_⟩ rfl,hM,qV hok',hoth0⟩
   ·rfl
   ·rcases he with⟨rfl,hm⟩|⟨rfl,hm⟩|⟨rfl,hm⟩
    ·rw[f1,f2]at hm
     exact .inr (.inl ⟨rfl,hm⟩)
    ·rw[f1]at hm
     exact .inr (.inr (.inl ⟨rfl,hm⟩))
    ·exact .inr (.inr (.inr (.inr (.inl ⟨rfl,hm,e6⟩))))
  | pub h2 hlt hf =>
   have hwr:aU wrote:=h.ok.wrote
   obtain⟨p1,p2,p3⟩:=pub_g (sig:=wrote) (multi:=multi) hM hwr hlt (by rw[<-e4];exact hf)
   refine⟨[_],P++[wrote],rfl,.pub rfl ?_ rfl hp rfl,p1,⟨hok',fun _=>hlv.add (.inl rfl) (fun h5=>absurd rfl h5) ⟨show(4:Int)≠7 by decide,show(4:Int)≠5 by decide,show(4:Int)≠6 by decide⟩ rfl ?_ ?_ ?_,hsig,?_⟩,fun t2 h2 hmu _=>?_⟩
   ·show m.newest+1=_
    rw[hM.num]
   ·have hr:=hlv.reads
    dsimp only at hr
    rw[if_neg (by omega)]at hr
    show reads=if(5:Int)=3 then _ else aV (told++[_])
    rw[if_neg (by decide),eP,if_neg (by simp[jK])]
    exact hr
   ·show list.map (·.1)=cellsOf (told++[_])
    rw[eW,if_neg (by simp[eg])]
    exact hlv.cells
   ·show wrote=cn (told++[_])
    rw[fC,if_neg (by simp[eg])]
    exact hlv.wrote
   ·show fX c.ring _ (P++[wrote]) (cX ring multi (m.newest+1) list)
    rw[hsig,g1]
    exact CF hM
   ·refine zy h2 p2 rfl (fun b2 e=>p3 b2 ?_ ?_)
    ·have hw2:=h2.way
     unfold yS at hw2
     rw[e]at hw2
     exact hw2
    ·have ho:=h2.ok.way
     unfold kc at ho
     rw[e]at ho
     obtain⟨-,-,-,ho,-⟩:=ho
     exact ho.trans hmu
 | .bak b,hway,hwg,_ =>
  obtain⟨hp,hb,e1,e2,e3⟩:=hway
  dsimp only at hp hb e1 e2 e3 hwg
  have hlv:=hliv (by omega)
  rw[g1]at hb
  have hres:=bak_g hmem hM hb hwg
  have hk:=rh m b
  have hbs:=nF hmem hb
  unfold aP eF at hok' hmem' hr' hcl' ⊢
  dsimp only at hok' hmem' hr' hcl' ⊢
  generalize aR m b=R at *
  obtain⟨a,b',m1⟩:=R
  dsimp only at hres hk hbs hok' hmem' hr' hcl' ⊢
  have hoth:∀ t2,TG c m P t2->t2.multi=multi->(∀ s,bF (⟨ring,writes,stamps,multi,list,wrote,phase,start,seen,reads,cell,stamp,.bak b,told⟩:bZ)=some s->bF t2≠some s)->TG c m1 P t2:=fun t2 h2 _ hne=>by
   refine zy h2 hres.le ?_ (fun b2 e=>?_)
   ·have hcl0:=hcl'
    cases hbs<;>assumption
   ·have hw2:=h2.way
    unfold yS at hw2
    rw[e]at hw2
    refine hres.other b2 hw2 (fun he=>hne b.stamp rfl ?_)
    unfold bF
    rw[e]
    dsimp only
    rw[he]
  cases hbs with
  | moved k h1 h2 h3 h4=>exact⟨[],P,by simp[moved],.none rfl (by dsimp only;omega),hres.mem,⟨hok',fun _=>hlv.same rfl rfl rfl rfl rfl rfl,hsig,hres.self (by simp[moved])⟩,hoth⟩
  | waits k=>exact⟨[],P,by simp[waits],.none rfl (by dsimp only;omega),hres.mem,⟨hok',fun _=>hlv.same rfl rfl rfl rfl rfl rfl,hsig,hres.self (by simp[waits])⟩,hoth⟩
  | done h1 h2 h3 h4=>exact⟨[_],P,rfl,.done rfl hp rfl,hres.mem,xM hok' rfl rfl rfl rfl,hoth⟩
end
section
variable {c:cN}{m m':au}{P P':List (List Int)}
structure EndF(c:cN)(P:List (List Int))(told:List bM)(e:bM):Prop where
 sig:e.sig=aV told\/∃ x,e.sig=be (aV told) x
 ok:aU (aV told)/\aU e.sig/\0<=e.start
 how:(e.err=0/\cellsOf told=[]/\e.sig=aV told)\/(e.err=3/\Met P e.start e.sig)\/(e.err=4/\e.start+c.ring<P.length)\/(e.err=5/\((cellsOf told).length:Int)=c.writes)\/(e.err=6/\(P.length:Int)=c.stamps/\cellsOf told≠[])\/e.err=7\/e.err=8
structure sZ(told:List bM):Prop where
 ne:told≠[]
 kinds:∀ y∈told,y.kind≠5/\y.kind≠6
inductive gG(c:cN):List (List Int)->List bM->bM->List (List Int)->Prop
 | first {P e}:e.kind=7->gG c P [] e P
 | on {P told e}:sZ told->(e.kind=1\/e.kind=2\/e.kind=3)->gG c P told e P
 | pub {P told e}:sZ told->(∀ y∈told,y.kind≠4)->e.kind=4->e.stamp=(P.length:Int)+1->e.sig=cn told->aU e.sig->gG c P told e (P++[e.sig])
 | done {P told e}:sZ told->e.kind=5->gG c P told e P
 | fail {P told e}:sZ told->(∀ y∈told,y.kind≠4)->e.kind=6->EndF c P told e->gG c P told e P
inductive dc(c:cN):List (List Int)->List bM->List bM->List (List Int)->Prop
 | nil {P told}:dc c P told [] P
 | cons {P P1 P2 told e l}:gG c P told e P1->dc c P1 (told++[e]) l P2->dc c P told (e::l) P2
theorem dc.append{P P1 P2:List (List Int)}{l1:List bM}:∀ {told l2:List bM},dc c P told l1 P1->dc c P1 (told++l1) l2 P2->dc c P told (l1++l2) P2:=by
 induction l1 generalizing P with
 | nil =>
  intro told l2 h1 h2
  cases h1
  simpa using h2
 | cons e l ih =>
  intro told l2 h1 h2
  cases h1 with
  | cons h3 h4=>exact .cons h3 (ih h4 (by simpa using h2))
theorem lY(l:List bM):aU (aV l):=by
 have h:∀ (l:List bM) (s:List Int),aU s->aU (l.foldl (fun s e=>if jK e=true then be s e.cell else s) s):=by
  intro l
  induction l with
  | nil=>exact fun s hs=>hs
  | cons e l ih =>
   intro s hs
   refine ih _ ?_
   dsimp only
   split
   ·exact cF hs _
   ·exact hs
 exact h l _ cD
theorem ut.ne{t:bZ}(h:ut t):sZ t.told:=by
 refine⟨?_,fun y hy=>⟨(h.kinds y hy).1,(h.kinds y hy).2.1⟩⟩
 obtain⟨e,l,h1,-⟩:=h.head
 rw[h1]
 exact fun h=>nomatch h
theorem lC{t:bZ}{e:bM}(hM:eJ c.ring c.stamps m P)(h:TG c m P t)(he:EndOk c m P t e):gG c P t.told e P:=by
 obtain⟨h1,h2,h3,h4,h5,h6⟩:=he
 have hl:=h.live h4
 have hr:=hl.reads
 have hnum:=hM.num
 have hc:=hl.cells
 have hlen:(cellsOf t.told).length=t.list.length:=by rw[<-hc,List.length_map]
 refine .fail hl.ne (fun y hy=>(hl.kinds y hy).2.2 h5) h1 ⟨?_,⟨lY _,by rw[h2];exact h.ok.reads,by rw[h3];exact h.ok.start.1⟩,?_⟩
 ·rw[h2,hr]
  split
  ·exact .inr ⟨_,rfl⟩
  ·exact .inl rfl
 ·rw[h2,h3]
  rcases h6 with⟨k1,k2,k3⟩|⟨k1,k2⟩|⟨k1,k2⟩|⟨k1,k2⟩|⟨k1,k2,k3⟩|k1|k1
  ·refine .inl ⟨k1,?_,?_⟩
   ·rw[<-hc,k2];rfl
   ·rw[hr,if_neg (by omega)]
  ·exact .inr (.inl ⟨k1,k2⟩)
  ·exact .inr (.inr (.inl ⟨k1,by omega⟩))
  ·exact .inr (.inr (.inr (.inl ⟨k1,by omega⟩)))
  ·refine .inr (.inr (.inr (.inr (.inl ⟨k1,by omega,fun h0=>k3 ?_⟩))))
   rw[h0]at hlen
   exact List.eq_nil_of_length_eq_zero hlen.symm
  ·exact .inr (.inr (.inr (.inr (.inr (.inl k1)))))
  ·exact .inr (.inr (.inr (.inr (.inr (.inr k1)))))
theorem vZ{t t':bZ}{new:List bM}(hM:eJ c.ring c.stamps m P)(h:TG c m P t)(he:EvG c m P t new t' P'):dc c P t.told new P':=by
 cases he with
 | none=>exact .nil
 | got h1 h2 h3=>exact .cons (.on (h.live h3).ne (by omega)) .nil
 | @pub e _ h1 h2 h3 h4 h5 =>
  have hl:=h.live (by omega)
  have hw:e.sig=cn t.told:=h3.trans hl.wrote
  have hp:gG c P t.told e (P++[e.sig]):=.pub hl.ne (fun y hy=>(hl.kinds y hy).2.2 (by omega)) h1 h2 hw (by rw[h3];exact h.ok.wrote)
  rw[h3]at hp
  exact .cons hp .nil
 | done h1 h2 h3=>exact .cons (.done (h.live (by omega)).ne h1) .nil
 | fail h1 h2=>exact .cons (lC hM h h1) .nil
theorem mC{t:bZ}(hmem:aY m)(hok:dM c t m)(hw:t.way≠.no){s:Int}(hs:bF (aP m t).2.1=some s):bF t=some s\/m.newest<s:=by
 obtain⟨ring,writes,stamps,multi,list,wrote,phase,start,seen,reads,cell,stamp,way,told⟩:=t
 have hway:=hok.way
 unfold kc at hway
 match way,hway,hw with
 | .no,_,hw=>exact absurd rfl hw
 | .beg b,hway,_ =>
  obtain⟨hp,hb⟩:=hway
  have hr:=nE hmem hb
  unfold aP eF at hs
  dsimp only at hs
  generalize bU m b=R at *
  obtain⟨a,b'⟩:=R
  dsimp only at hr hs
  rcases hr with⟨rfl,k⟩|⟨rfl,k1,k2,k3,k4⟩
  ·simp[moved,bF]at hs
  ·simp[aW,bF,bO]at hs
 | .fet x,hway,_ =>
  obtain⟨hp,hx,-⟩:=hway
  have hr:=qT hmem hx
  unfold aP eF at hs
  dsimp only at hs
  generalize bj m x=R at *
  obtain⟨a,x'⟩:=R
  dsimp only at hr hs
  cases hr with
  | moved=>simp[moved,bF]at hs
  | waits=>simp[waits,bF]at hs
  | done=>simp[aW,bF,bO]at hs
  | fail=>simp[bi,de,gu,bF]at hs
 | .com x,hway,_ =>
  obtain⟨hp,hx,-⟩:=hway
  have hr:=qY hmem hx
  unfold aP eF at hs
  dsimp only at hs
  generalize aT m x=R at *
  obtain⟨a,x',m1⟩:=R
  dsimp only at hr hs
  cases hr with
  | moved=>simp[moved,bF]at hs
  | waits=>simp[waits,bF]at hs
  | done s' h1 h2 h3 h4 =>
   simp[aW,bF,bO,cX]at hs
   right
   omega
  | fail=>simp[bi,de,gu,bF]at hs
 | .bak b,hway,_ =>
  obtain⟨hp,hb,-⟩:=hway
  have hr:=nF hmem hb
  have hk:=rh m b
  unfold aP eF at hs
  dsimp only at hs
  generalize aR m b=R at *
  obtain⟨a,b',m1⟩:=R
  dsimp only at hr hs hk
  cases hr with
  | moved =>
   simp[moved,bF]at hs
   left
   simp[bF]
   omega
  | waits =>
   simp[waits,bF]at hs
   left
   simp[bF]
   omega
  | done=>simp[aW,gu,bF,bO]at hs
structure DoG(c:cN)(m m':au)(P P':List (List Int))(t t':bZ)(new:List bM):Prop where
 told:t'.told=t.told++new
 ev:dc c P t.told new P'
 mem:eJ c.ring c.stamps m' P'
 self:TG c m' P' t'
 other:∀ t2,TG c m P t2->t2.multi=t.multi->TG c m' P' t2
 under:∀ s,bF t'=some s->m.newest<s
theorem DoG.of_step{t t':bZ}{new:List bM}(hM:eJ c.ring c.stamps m P)(h:TG c m P t)(hu:bF t=none)(hs:StepG c m m' P P' t t' new)(hun:∀ s,bF t'=some s->bF t=some s\/m.newest<s):DoG c m m' P P' t t' new :=
 ⟨hs.told,vZ hM h hs.ev,hs.mem,hs.self,fun t2 h2 hmu=>hs.other t2 h2 hmu (fun s hs'=>by rw[hu]at hs';exact nomatch hs'),fun s hs'=>(hun s hs').elim (fun h=>by rw[hu]at h;exact nomatch h) id⟩
structure za(t:bZ):Prop where
 told:t.told=[]
 reads:t.reads=bQ
 list:t.list=[]
theorem do_g{t:bZ}{x:es}(hc:co c)(hmem:aY m)(hM:eJ c.ring c.stamps m P)(h:TG c m P t)(hw:t.way=.no)(hf:cz m t x=true)(hx:aI x.value)(h1f:x.kind=1->za t) :
  ∃ new P',DoG c m (cB m t x).2.2 P P' t (cB m t x).2.1 new:=by
 obtain⟨new0,-,-,hok',-,-,-⟩:=oR hc hmem h.ok hw hf hx
 have hG:=h
 have hsig:=h.sig
 have hliv:=h.live
 have hok:=h.ok
 obtain⟨ring,writes,stamps,multi,list,wrote,phase,start,seen,reads,cell,stamp,way,told⟩:=t
 obtain⟨⟨g1,g2,g3,g4⟩,hmr,hlist,hlen,hnd,hwr,hrd,hst,hse,hsp,hce,htd,hway⟩:=hok
 dsimp only at g1 g2 g3 g4 hlist hlen hnd hwr hrd hst hse hsp hce htd hw hsig hliv h1f
 subst hw
 have hwp:=hc.writes
 have hcl:=hmem.cells
 have hfn:¬cz m ⟨ring,writes,stamps,multi,list,wrote,phase,start,seen,reads,cell,stamp,.no,told⟩ x=false:=by rw[hf];simp
 unfold cz at hf
 simp only[Bool.and_eq_true,decide_eq_true_eq]at hf
 obtain⟨-,hf⟩:=hf
 unfold cB at hok' ⊢
 rw[if_neg hfn]at hok' ⊢
 have hoth:∀ t2,TG c m P t2->t2.multi=multi->TG c m P t2:=fun t2 h2 _=>h2
 by_cases h1:x.kind=1
 ·rw[if_pos h1]at hf hok' ⊢
  simp only[decide_eq_true_eq]at hf
  subst hf
  obtain⟨f1,f2,f3⟩:=h1f h1
  dsimp only at f1 f2 f3
  subst f1 f2 f3
  have hk:dM c (bO ⟨ring,writes,stamps,multi,[],wrote,1,start,seen,bQ,cell,stamp,.beg ⟨ring,0,0,0⟩,[]⟩ {fd with kind:=7}) m :=
   ⟨⟨g1,g2,g3,g4⟩,hmr,hlist,hlen,hnd,hwr,hrd,hst,hse,hsp,hce,eh htd (lS _ _ _ _ _ _ _ _ _ aK aK aK aK cD (by decide) (by decide) (by decide)),⟨rfl,rfl,.inl rfl,aK,aK,fun h=>by simp at h⟩⟩
  have hT:TG c m P (bO ⟨ring,writes,stamps,multi,[],wrote,1,start,seen,bQ,cell,stamp,.beg ⟨ring,0,0,0⟩,[]⟩ {fd with kind:=7}) :=
   ⟨hk,fun _=>⟨⟨_,[],rfl,rfl,fun _ h=>nomatch h⟩,fun e he=>by
    have he':e = {fd with kind:=7}:=by simpa[bO]using he
    rw[he']
    exact⟨show(7:Int)≠5 by decide,show(7:Int)≠6 by decide,fun _=>show(7:Int)≠4 by decide⟩,rfl,rfl,hsig⟩,hsig,trivial⟩
  obtain⟨new,P',hs⟩:=tx_g hc hmem hM hT (by simp[bO])
  have hd:=DoG.of_step hM hT rfl hs (fun s=>mC hmem hk (by simp[bO]))
  exact⟨{fd with kind:=7}::new,P',by rw[hd.told];simp[bO],.cons (.first rfl) hd.ev,hd.mem,hd.self,hd.other,hd.under⟩
 rw[if_neg h1]at hf hok' ⊢
 by_cases h2:x.kind=2
 ·rw[if_pos (.inl h2)]at hf
  rw[if_pos h2]at hok' ⊢
  simp only[decide_eq_true_eq]at hf
  obtain⟨hp,hc0,hc1⟩:=hf
  subst hp
  have hlv:=hliv (by decide)
  have hrr:reads=aV told:=by
   have h:=hlv.reads
   dsimp only at h
   rw[if_neg (by decide)]at h
   exact h
  split
  ·rename_i v hv
   rw[hv]at hok'
   dsimp only at hok'
   refine⟨[_],P,rfl,.cons (.on hlv.ne (.inr (.inl rfl))) .nil,hM,⟨hok',fun _=>hlv.add (.inr (show(2:Int)≠4 by decide)) (fun _=>show(2:Int)≠5 by decide) ⟨show(2:Int)≠7 by decide,show(2:Int)≠5 by decide,show(2:Int)≠6 by decide⟩ rfl ?_ ?_ ?_,hsig,trivial⟩,hoth,fun s hs=>nomatch hs⟩
   ·show reads=if(2:Int)=3 then _ else aV (told++[_])
    rw[if_neg (by decide),eP,if_neg (by simp[jK])]
    exact hrr
   ·show list.map (·.1)=cellsOf (told++[_])
    rw[eW,if_neg (by simp[eg])]
    exact hlv.cells
   ·show wrote=cn (told++[_])
    rw[fC,if_neg (by simp[eg])]
    exact hlv.wrote
  ·have hk:dM c ⟨ring,writes,stamps,multi,list,wrote,3,start,seen,be reads x.cell,x.cell,stamp,.fet ⟨bJ ring start (be reads x.cell) true,x.cell,false,0⟩,told⟩ m :=
    ⟨⟨g1,g2,g3,g4⟩,hmr,hlist,hlen,hnd,hwr,cF hrd _,hst,hse,hsp,⟨hc0,by dsimp only;omega⟩,htd,⟨rfl,⟨jP true hst.1 hst.2 (cF hrd _),⟨hc0,hc1⟩,aK,fun _=>rfl⟩,rfl,rfl,rfl⟩⟩
   have hT:TG c m P ⟨ring,writes,stamps,multi,list,wrote,3,start,seen,be reads x.cell,x.cell,stamp,.fet ⟨bJ ring start (be reads x.cell) true,x.cell,false,0⟩,told⟩ :=
    ⟨hk,fun _=>⟨hlv.head,fun e he=>⟨(hlv.kinds e he).1,(hlv.kinds e he).2.1,fun _=>(hlv.kinds e he).2.2 (show(2:Int)≠5 by decide)⟩,by dsimp only;rw[if_pos rfl,hrr],hlv.cells,hlv.wrote⟩,hsig,qK hM _ _ _ _⟩
   obtain⟨new,P',hs⟩:=tx_g hc hmem hM hT (by simp)
   have hd:=DoG.of_step hM hT rfl hs (fun s=>mC hmem hk (by simp[bO]))
   exact⟨new,P',hd.told,hd.ev,hd.mem,hd.self,hd.other,hd.under⟩
 rw[if_neg h2]at hok' ⊢
 by_cases h3:x.kind=3
 ·rw[if_pos (.inr h3)]at hf
  rw[if_pos h3]at hok' ⊢
  simp only[decide_eq_true_eq]at hf
  obtain⟨hp,hc0,hc1⟩:=hf
  subst hp
  have hlv:=hliv (by decide)
  by_cases hb:(eR list x.cell).isNone=true/\(list.length:Int)=writes
  ·rw[if_pos hb]at hok' ⊢
   exact⟨[_],P,rfl,.cons (lC hM hG ⟨rfl,rfl,rfl,show(2:Int)≠0 by decide,show(2:Int)≠5 by decide,.inr (.inr (.inr (.inl ⟨rfl,by dsimp only;omega⟩)))⟩) .nil,hM,qV (acc:=false) hok',hoth,fun s hs=>nomatch hs⟩
  ·rw[if_neg hb]at hok' ⊢
   refine⟨[_],P,rfl,.cons (.on hlv.ne (.inr (.inr rfl))) .nil,hM,⟨hok',fun _=>hlv.add (.inr (show(3:Int)≠4 by decide)) (fun _=>show(2:Int)≠5 by decide) ⟨show(3:Int)≠7 by decide,show(3:Int)≠5 by decide,show(3:Int)≠6 by decide⟩ rfl ?_ ?_ ?_,?_,trivial⟩,hoth,fun s hs=>nomatch hs⟩
   ·have h:=hlv.reads
    dsimp only at h
    rw[if_neg (by decide)]at h
    show reads=if(2:Int)=3 then _ else aV (told++[_])
    rw[if_neg (by decide),eP,if_neg (by simp[jK])]
    exact h
   ·show(fT list x.cell x.value).map (·.1)=cellsOf (told++[_])
    have hcs:list.map (·.1)=cellsOf told:=hlv.cells
    rw[eW,xK,hcs]
    dsimp only
    by_cases hm:x.cell∈cellsOf told
    ·rw[if_pos hm,if_neg (fun h=>h.2 hm)]
    ·rw[if_neg hm,if_pos ⟨rfl,hm⟩]
   ·show be wrote x.cell=cn (told++[_])
    have hwo:wrote=cn told:=hlv.wrote
    rw[fC,hwo]
    exact(if_pos (by rfl)).symm
   ·show be wrote x.cell=dZ (fT list x.cell x.value)
    rw[hsig]
    exact Aa
 rw[if_neg (by omega)]at hf
 rw[if_neg h3]at hok' ⊢
 by_cases h4:x.kind=4
 ·rw[if_pos h4]at hf hok' ⊢
  simp only[decide_eq_true_eq]at hf
  subst hf
  have hlv:=hliv (by decide)
  by_cases hl:list=[]
  ·rw[if_pos hl]at hok' ⊢
   exact⟨[_],P,rfl,.cons (lC hM hG ⟨rfl,rfl,rfl,show(2:Int)≠0 by decide,show(2:Int)≠5 by decide,.inl ⟨rfl,hl,rfl⟩⟩) .nil,hM,qV (acc:=false) hok',hoth,fun s hs=>nomatch hs⟩
  ·rw[if_neg hl]at hok' ⊢
   have hk:dM c ⟨ring,writes,stamps,multi,list,wrote,4,start,seen,reads,cell,stamp,.com ⟨ring,stamps,multi,start,0,reads,bJ ring start reads false,0,0⟩,told⟩ m:=by
    have hss:=hc.stamps
    exact⟨⟨g1,g2,g3,g4⟩,hmr,hlist,hlen,hnd,hwr,hrd,hst,hse,hsp,hce,htd,⟨rfl,⟨rfl,by simp only;omega,hst.1,hst.2,hrd,by simp,fun _=>jP false hst.1 hst.2 hrd,fun h=>absurd rfl h⟩,rfl,rfl,rfl,rfl,fun _=>⟨rfl,rfl,rfl⟩,hl⟩⟩
   have hT:TG c m P ⟨ring,writes,stamps,multi,list,wrote,4,start,seen,reads,cell,stamp,.com ⟨ring,stamps,multi,start,0,reads,bJ ring start reads false,0,0⟩,told⟩:=by
    refine⟨hk,fun _=>⟨hlv.head,fun e he=>⟨(hlv.kinds e he).1,(hlv.kinds e he).2.1,fun _=>(hlv.kinds e he).2.2 (show(2:Int)≠5 by decide)⟩,?_,hlv.cells,hlv.wrote⟩,hsig,⟨fun _=>qK hM _ _ _ _,fun h=>by simp at h,fun h=>by simp at h,fun h=>by simp at h⟩⟩
    have h:=hlv.reads
    dsimp only at h ⊢
    rw[if_neg (by decide)]at h ⊢
    exact h
   obtain⟨new,P',hs⟩:=tx_g hc hmem hM hT (by simp)
   have hd:=DoG.of_step hM hT rfl hs (fun s=>mC hmem hk (by simp[bO]))
   exact⟨new,P',hd.told,hd.ev,hd.mem,hd.self,hd.other,hd.under⟩
 rw[if_neg h4]at hf hok' ⊢
 by_cases h5:x.kind=5
 ·rw[if_pos h5]at hf
  simp only[decide_eq_true_eq]at hf
  obtain⟨hp,hco⟩:=hf
  subst hp
  exact⟨[_],P,rfl,.cons (lC hM hG ⟨rfl,rfl,rfl,show(2:Int)≠0 by decide,show(2:Int)≠5 by decide,.inr (.inr (.inr (.inr (.inr (by dsimp only;omega)))))⟩) .nil,hM,qV (acc:=false) hok',hoth,fun s hs=>nomatch hs⟩
 ·rw[if_neg h5]at hf
  simp at hf
end
section
variable {c:cN}{m m':au}{P P':List (List Int)}
theorem gG.grow{told:List bM}{e:bM}(h:gG c P told e P'):∃ Q,P'=P++Q:=by
 cases h with
 | first=>exact⟨[],by simp⟩
 | on=>exact⟨[],by simp⟩
 | pub=>exact⟨_,rfl⟩
 | done=>exact⟨[],by simp⟩
 | fail=>exact⟨[],by simp⟩
theorem dc.grow{told new:List bM}(h:dc c P told new P'):∃ Q,P'=P++Q:=by
 induction h with
 | nil=>exact⟨[],by simp⟩
 | cons h1 _ ih =>
  obtain⟨Q1,rfl⟩:=h1.grow
  obtain⟨Q2,rfl⟩:=ih
  exact⟨Q1++Q2,by simp⟩
theorem dc.same{told new:List bM}{r s r' s':Int}(h:dc c P told new P')(h1:eJ r s m P)(h2:eJ r' s' m P'):P'=P:=by
 obtain⟨Q,rfl⟩:=h.grow
 have e1:=h1.num
 have e2:=h2.num
 rw[List.length_append]at e2
 have:Q=[]:=List.eq_nil_of_length_eq_zero (by omega)
 rw[this,List.append_nil]
structure BN(c:cN)(m:au)(P:List (List Int))(j:dY):Prop where
 tx:TG c m P j.tx
 fresh:j.begun=false->za j.tx
theorem sJ:za (cZ c.ring c.writes c.stamps c.multi):=⟨rfl,rfl,rfl⟩
theorem zB(hc:co c)(hm:m.ring=c.ring):TG c m P (cZ c.ring c.writes c.stamps c.multi):=xM (uH hc hm) rfl rfl rfl rfl
theorem zu(hc:co c)(hmem:aY m)(hM:eJ c.ring c.stamps m P){n:Nat}{t t':bZ}(h:iR m n t t'):TG c m P t->t.way=.no->t.phase≠0->∃ new,t'.told=t.told++new/\dc c P t.told new P/\TG c m P t':=by
 induction h with
 | refl t=>exact fun h1 _ _=>⟨[],by simp,.nil,h1⟩
 | @step n t t1 t2 x v hq h2 h3 h4 h5 h6 ih =>
  intro hT hw hp
  obtain⟨new,k1,k2,k3⟩:=ih hT hw hp
  obtain⟨new2,P2,hd⟩:=do_g hc hmem hM k3 h2 h3 h5 (fun h=>by omega)
  rw[h6]at hd
  obtain rfl:=hd.ev.same hM hd.mem
  exact⟨new++new2,by rw[hd.told,k1,List.append_assoc],k2.append (by rw[<-k1];exact hd.ev),hd.self⟩
structure JobS(c:cN)(m m':au)(P P':List (List Int))(j:dY)(new:List bM)(nx:cM):Prop where
 ev:dc c P j.tx.told new P'
 mem:eJ c.ring c.stamps m' P'
 next:∀ j',nx=.on j'->BN c m' P' j'/\(j'.tx.told=j.tx.told++new/\j'.begun=true\/j'.begun=false)/\∀ s,bF j'.tx=some s->bF j.tx=some s\/m.newest<s
 other:∀ t2,TG c m P t2->(∀ s,bF j.tx=some s->bF t2≠some s)->TG c m' P' t2
theorem yD{old:List bM}{t:bZ}{fin:Bool}{a:aM}{nx:cM}{j:dY}{new:List bM}(hc:co c)(h:iy c old t fin a nx)(ht:TG c m' P' t)(hr:t.told=j.tx.told++new)(hu:∀ s,bF t=some s->bF j.tx=some s\/m.newest<s) :
  ∀ j',nx=.on j'->BN c m' P' j'/\(j'.tx.told=j.tx.told++new/\j'.begun=true\/j'.begun=false)/\∀ s,bF j'.tx=some s->bF j.tx=some s\/m.newest<s:=by
 intro j' hj'
 subst hj'
 cases h with
 | on h1 h2=>exact⟨⟨ht,fun h=>by simp at h⟩,.inl ⟨hr,rfl⟩,hu⟩
 | again h1=>exact⟨⟨zB hc ht.ok.mring,fun _=>sJ⟩,.inr rfl,fun s hs=>nomatch hs⟩
theorem mf{t t2:bZ}(h:TG c m P t)(h2:TG c m P t2):t2.multi=t.multi:=h2.ok.cfg.2.2.2.trans h.ok.cfg.2.2.2.symm
theorem job_g{j:dY}{a:aM}{new:List bM}{nx:cM}(hc:co c)(hmem:aY m)(hM:eJ c.ring c.stamps m P)(hj:ix c j m)(hg:BN c m P j)(h:gx c m j a new m' nx):∃ P',JobS c m m' P P' j new nx:=by
 have hT:=hg.tx
 cases h with
 | @begin a new t' m' nx hb hd ht hcm =>
  obtain⟨hw,hp⟩:=hj.fresh hb
  have hf:cz m j.tx ⟨1,0,0,0⟩=true:=by
   unfold cz
   simp[hp,hj.tx.mring.trans hj.tx.cfg.1.symm]
  obtain⟨new',P2,hG⟩:=do_g hc hmem hM hT hw hf aK (fun _=>hg.fresh hb)
  rw[hd]at hG
  obtain rfl:new=new':=List.append_cancel_left (ht.symm.trans hG.told)
  exact⟨P2,hG.ev,hG.mem,yD hc hcm hG.self ht (fun s hs=>.inr (hG.under s hs)),fun t2 h2 _=>hG.other t2 h2 (mf hT h2)⟩
 | @go a new t' m' nx hb hw hd ht hcm =>
  obtain⟨new',P2,hG⟩:=tx_g hc hmem hM hT hw
  have hu:=fun s=>mC (s:=s) hmem hT.ok hw
  rw[hd]at hG hu
  obtain rfl:new=new':=List.append_cancel_left (ht.symm.trans hG.told)
  exact⟨P2,vZ hM hT hG.ev,hG.mem,yD hc hcm hG.self ht hu,fun t2 h2 hn=>hG.other t2 h2 (mf hT h2) hn⟩
 | @quiet n t' new fin hb hw hq hn ht =>
  obtain⟨add,k1,k2,k3⟩:=zu hc hmem hM hq hT hw (hj.runs hb)
  obtain rfl:new=add:=List.append_cancel_left (ht.symm.trans k1)
  obtain⟨_,q1,-,-,-,q5,-⟩:=eQ hc hmem hq hj.tx hw (hj.runs hb)
  refine⟨P,k2,hM,fun j' hj'=>?_,fun t2 h2 _=>h2⟩
  simp only[cM.on.injEq]at hj'
  subst hj'
  exact⟨⟨k3,fun h=>by simp at h⟩,.inl ⟨ht,rfl⟩,fun s hs=>by simp[bF,q5]at hs⟩
 | @want n t1 x a t' m' new nx hb hw hq hn hf hx1 hv hd ht hcm =>
  obtain⟨add,k1,k2,k3⟩:=zu hc hmem hM hq hT hw (hj.runs hb)
  obtain⟨_,q1,-,-,-,q5,-⟩:=eQ hc hmem hq hj.tx hw (hj.runs hb)
  obtain⟨new',P2,hG⟩:=do_g hc hmem hM k3 q5 hf hv (fun h=>absurd h hx1)
  rw[hd]at hG
  obtain rfl:new=add++new':=List.append_cancel_left (ht.symm.trans (hG.told.trans (by rw[k1,List.append_assoc])))
  exact⟨P2,k2.append (by rw[<-k1];exact hG.ev),hG.mem,yD hc hcm hG.self ht (fun s hs=>.inr (hG.under s hs)),fun t2 h2 _=>hG.other t2 h2 (mf k3 h2)⟩
theorem B8{t:bZ}(h:TG c m P t)(hM:eJ c.ring c.stamps m P){s:Int}(hs:bF t=some s):s<=m.newest:=by
 have hw:=h.way
 unfold bF at hs
 unfold yS at hw
 split at hs
 ·rename_i b e
  rw[e]at hw
  simp only[Option.some.injEq]at hs
  have h1:=hw.pos
  have h2:=hw.sig
  have h3:=hM.num
  have h4:=(List.getElem?_eq_some_iff.1 h2).1
  omega
 ·exact nomatch hs
end
section
variable {c:cN}{P P':List (List Int)}
def bh(n:Int)(H:List dh):List bM:=(H.filter fun y=>decide (y.tx=n)).map (·.e)
def bP(H:List dh):List (List Int):=(H.filter fun y=>decide (y.e.kind=4)).map (·.e.sig)
theorem jh(n:Int)(A B:List dh):bh n (A++B)=bh n A++bh n B:=by simp[bh]
theorem xB(A B:List dh):bP (A++B)=bP A++bP B:=by simp[bP]
def dB(c:cN)(H:List dh):Prop:=∀ A y B,H=A++y::B->gG c (bP A) (bh y.tx A) y.e (bP (A++[y]))
theorem xt{told:List bM}{e:bM}(h:gG c P told e P'):P'=if e.kind=4 then P++[e.sig]else P:=by
 cases h with
 | first h1=>rw[if_neg (by omega)]
 | on _ h1=>rw[if_neg (by omega)]
 | pub _ _ h1=>rw[if_pos h1]
 | done _ h1=>rw[if_neg (by omega)]
 | fail _ _ h1=>rw[if_neg (by omega)]
theorem ib(A:List dh)(y:dh):bP (A++[y])=if y.e.kind=4 then bP A++[y.e.sig]else bP A:=by
 rw[xB]
 unfold bP
 by_cases h:y.e.kind=4<;>simp[h]
theorem xA{α:Type}{H A B:List α}{x y:α}(h:H++[x]=A++y::B):(∃ B',B=B'++[x]/\H=A++y::B')\/(B=[]/\y=x/\A=H):=by
 rcases List.eq_nil_or_concat B with rfl|⟨B',z,rfl⟩
 ·obtain⟨h1,h2⟩:=List.append_inj' h rfl
  simp only[List.cons.injEq,and_true]at h2
  exact .inr ⟨rfl,h2.symm,h1.symm⟩
 ·have h':H++[x]=(A++y::B')++[z]:=by simpa using h
  obtain⟨h1,h2⟩:=List.append_inj' h' rfl
  simp only[List.cons.injEq,and_true]at h2
  exact .inl ⟨B',by rw[h2];simp,h1⟩
theorem dB.one{H:List dh}{y:dh}(h:dB c H)(ht:gG c (bP H) (bh y.tx H) y.e P'):dB c (H++[y])/\bP (H++[y])=P':=by
 have hP:=xt ht
 have hs:=ib H y
 rw[<-hP]at hs
 refine⟨fun A z B he=>?_,hs⟩
 rcases xA he with⟨B',-,h2⟩|⟨-,rfl,rfl⟩
 ·exact h A z B' h2
 ·rw[hs];exact ht
theorem dB.all{n a th:Int}:∀ {new:List bM} {H:List dh} {P':List (List Int)},dB c H->dc c (bP H) (bh n H) new P' ->
  dB c (H++new.map fun e=>⟨a,th,n,e⟩)/\bP (H++new.map fun e=>⟨a,th,n,e⟩)=P'/\bh n (H++new.map fun e=>⟨a,th,n,e⟩)=bh n H++new
 | [],H,P',h,ht=>by
  cases ht
  exact⟨by simpa using h,by simp,by simp⟩
 | e::l,H,P',h,ht=>by
  cases ht with
  | cons h1 h2 =>
   obtain⟨k1,k2⟩:=h.one (y:=⟨a,th,n,e⟩) h1
   have k3:bh n (H++[⟨a,th,n,e⟩])=bh n H++[e]:=by rw[jh];simp[bh]
   obtain⟨r1,r2,r3⟩:=dB.all (n:=n) (a:=a) (th:=th) k1 (by rw[k2,k3];exact h2)
   have e1:H++(e::l).map (fun e=>(⟨a,th,n,e⟩:dh))=H++[⟨a,th,n,e⟩]++l.map fun e=>⟨a,th,n,e⟩:=by simp
   rw[e1]
   exact⟨r1,r2,by rw[r3,k3];simp⟩
theorem xq(a th:Int):∀ (l:List bM) (s:BB),(∀ e∈l,e.kind≠7)->dF a th s l=l.map (fun e=>⟨a,th,s.tx,e⟩)/\(l.foldl eu s).tx=s.tx/\(l.foldl eu s).opened=s.opened
 | [],s,_=>⟨rfl,rfl,rfl⟩
 | e::l,s,h=>by
  have h7:=h e List.mem_cons_self
  have e1:(eu s e).tx=s.tx/\(eu s e).opened=s.opened:=by
   unfold eu
   rw[if_neg h7]
   repeat' split
   all_goals exact⟨rfl,rfl⟩
  obtain⟨k1,k2,k3⟩:=xq a th l (eu s e) (fun x hx=>h x (List.mem_cons_of_mem _ hx))
  refine⟨?_,k2.trans e1.1,k3.trans e1.2⟩
  show Cf a th s e::dF a th (eu s e) l=_
  rw[k1,e1.1]
  unfold Cf
  rw[e1.1]
  rfl
theorem Ce(a th:Int)(e:bM)(l:List bM)(s:BB)(h7:e.kind=7)(h:∀ e∈l,e.kind≠7):dF a th s (e::l)=(e::l).map (fun e=>⟨a,th,s.opened,e⟩)/\((e::l).foldl eu s).tx=s.opened/\((e::l).foldl eu s).opened=s.opened+1:=by
 have e1:eu s e=⟨s.opened+1,s.opened,s.stamp⟩:=by unfold eu;rw[if_pos h7]
 obtain⟨k1,k2,k3⟩:=xq a th l (eu s e) h
 rw[e1]at k1 k2 k3
 refine⟨?_,?_,?_⟩
 ·show Cf a th s e::dF a th (eu s e) l=_
  rw[e1,k1]
  unfold Cf
  rw[e1]
  rfl
 ·show(l.foldl eu (eu s e)).tx=_
  rw[e1,k2]
 ·show(l.foldl eu (eu s e)).opened=_
  rw[e1,k3]
theorem oS{told:List bM}:∀ {new:List bM} {P P':List (List Int)},told≠[]->dc c P told new P'->∀ e∈new,e.kind≠7:=by
 intro new
 induction new generalizing told with
 | nil=>exact fun _ _ _ he=>nomatch he
 | cons x l ih =>
  intro P P' hne h e he
  cases h with
  | cons h1 h2 =>
   rcases List.mem_cons.1 he with rfl|he
   ·cases h1 with
    | first=>exact absurd rfl hne
    | on _ h=>omega
    | pub _ _ h=>omega
    | done _ h=>omega
    | fail _ _ h=>omega
   ·exact ih (by simp) h2 e he
structure WG(c:cN)(d:WD):Prop where
 mem:eJ c.ring c.stamps d.m (bP d.ev)
 job:∀ t∈d.th,∀ j,t.job=some j->BN c d.m (bP d.ev) j
 apart:∀ (n n':Nat) (t t':TD) (j j':dY) (s:Int),n≠n'->d.th[n]?=some t->d.th[n']?=some t'->t.job=some j->t'.job=some j'->bF j.tx=some s->bF j'.tx≠some s
 tx:∀ t∈d.th,∀ j,t.job=some j->j.begun=true->bh t.tx d.ev=j.tx.told/\j.tx.told≠[]/\t.tx<d.opened
 txs:∀ (n n':Nat) (t t':TD) (j j':dY),n≠n'->d.th[n]?=some t->d.th[n']?=some t'->t.job=some j->t'.job=some j'->j.begun=true->j'.begun=true->t.tx≠t'.tx
 below:∀ y∈d.ev,y.tx<d.opened
 hist:dB c d.ev
theorem uI{n:Int}{H:List dh}(h:∀ y∈H,y.tx≠n):bh n H=[]:=by
 unfold bh
 rw[List.filter_eq_nil_iff.2 (fun y hy=>by simpa using h y hy)]
 rfl
theorem xo{n k a th:Int}(h:k≠n)(H:List dh)(new:List bM):bh n (H++new.map fun e=>⟨a,th,k,e⟩)=bh n H:=by
 rw[jh,uI (H:=new.map fun e=>⟨a,th,k,e⟩),List.append_nil]
 intro y hy
 obtain⟨e,-,rfl⟩:=List.mem_map.1 hy
 exact h
theorem newJ_g{m:au}(hc:co c)(hm:m.ring=c.ring):BN c m P (me c):=⟨zB hc hm,fun _=>sJ⟩
theorem AW{t:bZ}{m:au}(h:TG c m P t)(hp:t.phase≠0):t.told≠[]:=(h.live hp).ne.ne
theorem ku{α:Type}{l:List α}{n k:Nat}{x y:α}(h:(l.set n x)[k]?=some y):(k=n/\y=x)\/(k≠n/\l[k]?=some y):=by
 rw[List.getElem?_set]at h
 split at h
 ·rename_i e
  split at h
  ·simp only[Option.some.injEq]at h
   exact .inl ⟨e.symm,h.symm⟩
  ·simp at h
 ·rename_i e
  exact .inr ⟨fun he=>e he.symm,h⟩
theorem zi{nj:Nat->Nat}{d d':WD}{i:Int}{a:aM}(hc:co c)(hw:WOk c d)(h:WG c d)(hs:nI c nj d i a d'):WG c d':=by
 have hw':=(uz hc hw hs).1
 cases hs with
 | out h1=>exact h
 | full h1 h2 h3 h4=>exact h
 | @step n t j a new m' nx h1 h2 h3 h4 h5 =>
  have htm:=List.mem_of_getElem? h2
  have hj:=tg hc hw htm h4
  have hjg:BN c d.m (bP d.ev) j:=by
   rcases h4 with h4|⟨-,rfl⟩
   ·exact h.job t htm j h4
   ·exact newJ_g hc hw.ring
  obtain⟨P',hS⟩:=job_g hc hw.mem h.mem hj hjg h5
  obtain⟨sg,hsg⟩:∃ s:BB,(⟨d.opened,t.tx,t.stamp⟩:BB)=s:=⟨_,rfl⟩
  have hK:∃ K,dF d.steps i sg new=new.map (fun e=>⟨d.steps,i,K,e⟩)/\bh K d.ev=j.tx.told/\(new≠[]\/j.begun=true->(new.foldl eu sg).tx=K/\K<(new.foldl eu sg).opened) /\
    (∀ (k:Nat) (t2:TD) (j2:dY),k≠n->d.th[k]?=some t2->t2.job=some j2->j2.begun=true->K≠t2.tx)/\d.opened<=(new.foldl eu sg).opened:=by
   cases hb:j.begun with
   | true =>
    have hjob:t.job=some j:=by
     rcases h4 with h4|⟨-,rfl⟩
     ·exact h4
     ·simp[me]at hb
    obtain⟨k1,k2,k3⟩:=h.tx t htm j hjob hb
    obtain⟨m1,m2,m3⟩:=xq d.steps i new sg (oS k2 hS.ev)
    subst hsg
    exact⟨t.tx,m1,k1,fun _=>⟨m2,by rw[m3];exact k3⟩,fun k t2 j2 hne ht2 hj2 hb2=>h.txs n k t t2 j j2 (fun e=>hne e.symm) h2 ht2 hjob hj2 hb hb2,Int.le_of_eq m3.symm⟩
   | false =>
    have htold:=(hjg.fresh hb).told
    have hno:bh d.opened d.ev=[]:=uI fun y hy he=>by have:=h.below y hy;omega
    have hoth:∀ (k:Nat) (t2:TD) (j2:dY),k≠n->d.th[k]?=some t2->t2.job=some j2->j2.begun=true->d.opened≠t2.tx:=fun k t2 j2 _ ht2 hj2 hb2=>by
     have:=(h.tx t2 (List.mem_of_getElem? ht2) j2 hj2 hb2).2.2
     omega
    have hev:=hS.ev
    cases new with
    | nil =>
     subst hsg
     exact⟨d.opened,rfl,by rw[hno,htold],fun hh=>by simp at hh,hoth,Int.le_refl _⟩
    | cons e l =>
     rw[htold]at hev
     cases hev with
     | cons e1 e2 =>
      have h7:e.kind=7:=by
       cases e1 with
       | first h7=>exact h7
       | on h=>exact absurd rfl h.ne
       | pub h=>exact absurd rfl h.ne
       | done h=>exact absurd rfl h.ne
       | fail h=>exact absurd rfl h.ne
      obtain⟨m1,m2,m3⟩:=Ce d.steps i e l sg h7 (oS (by simp) e2)
      subst hsg
      exact⟨d.opened,m1,by rw[hno,htold],fun _=>⟨m2,by rw[m3];dsimp only;omega⟩,hoth,by rw[m3];dsimp only;omega⟩
  obtain⟨K,k1,k2,k3,k4,k5⟩:=hK
  rw[hsg]at hw' ⊢
  rw[k1]at hw' ⊢
  obtain⟨r1,r2,r3⟩:=h.hist.all (n:=K) (a:=d.steps) (th:=i) (new:=new) (P':=P') (by rw[k2];exact hS.ev)
  have hothu:∀ (k:Nat) (t2:TD) (j2:dY),k≠n->d.th[k]?=some t2->t2.job=some j2->∀ s,bF j.tx=some s->bF j2.tx≠some s:=fun k t2 j2 hne ht2 hj2 s hs=>by
   rcases h4 with h4|⟨-,rfl⟩
   ·exact h.apart n k t t2 j j2 s (fun e=>hne e.symm) h2 ht2 h4 hj2 hs
   ·simp[me,cZ,bF]at hs
  have hnew:∀ (k:Nat) (t2:TD) (j2 j':dY) (s:Int),nx=.on j'->k≠n->d.th[k]?=some t2->t2.job=some j2->bF j'.tx=some s->bF j2.tx≠some s:=fun k t2 j2 j' s hnx hne ht2 hj2 hs he=>by
   rcases(hS.next j' hnx).2.2 s hs with h6|h6
   ·exact hothu k t2 j2 hne ht2 hj2 s h6 he
   ·have:=B8 (h.job t2 (List.mem_of_getElem? ht2) j2 hj2).tx h.mem he
    omega
  have hself:∀ j',nx=.on j'->j'.begun=true->j'.tx.told=j.tx.told++new/\j'.tx.told≠[]/\(new.foldl eu sg).tx=K/\K<(new.foldl eu sg).opened:=fun j' hnx hb'=>by
   obtain⟨q1,q2,q3⟩:=hS.next j' hnx
   have q4:j'.tx.told=j.tx.told++new:=by
    rcases q2 with q2|q2
    ·exact q2.1
    ·rw[hb']at q2;exact nomatch q2
   have hjo:ix c j' m':=hw'.job _ (List.mem_of_getElem? (i:=n) (by rw[List.getElem?_set_self (List.getElem?_eq_some_iff.1 h2).1])) j' (by rw[hnx];rfl)
   have q5:=AW q1.tx (hjo.runs hb')
   refine⟨q4,q5,k3 ?_⟩
   by_cases hn0:new=[]
   ·cases hb:j.begun with
    | true=>exact .inr rfl
    | false =>
     rw[q4,hn0,(hjg.fresh hb).told]at q5
     exact absurd rfl q5
   ·exact .inl hn0
  have hnext:∀ {j':dY},mT nx=some j'->nx=.on j':=fun {j'} hj'=>by
   cases nx with
   | on j2=>simp only[mT,Option.some.injEq]at hj';rw[hj']
   | over=>simp[mT]at hj'
  refine⟨by rw[r2];exact hS.mem,fun t2 ht2 j2 hj2=>?_,fun k k' t2 t2' j2 j2' s hne ht2 ht2' hj2 hj2' hs he=>?_,fun t2 ht2 j2 hj2 hb2=>?_,fun k k' t2 t2' j2 j2' hne ht2 ht2' hj2 hj2' hb2 hb2'=>?_,fun y hy=>?_,r1⟩
  ·rw[r2]
   obtain⟨k,hk⟩:=List.getElem?_of_mem ht2
   rcases ku hk with⟨rfl,rfl⟩|⟨hne,hk⟩
   ·exact(hS.next j2 (hnext hj2)).1
   ·have hg:=h.job t2 (List.mem_of_getElem? hk) j2 hj2
    exact⟨hS.other _ hg.tx (hothu k t2 j2 hne hk hj2),hg.fresh⟩
  ·rcases ku ht2 with⟨rfl,rfl⟩|⟨hk,hk2⟩
   ·rcases ku ht2' with⟨rfl,rfl⟩|⟨hk',hk2'⟩
    ·exact hne rfl
    ·exact hnew k' t2' j2' j2 s (hnext hj2) hk' hk2' hj2' hs he
   ·rcases ku ht2' with⟨rfl,rfl⟩|⟨hk',hk2'⟩
    ·exact hnew k t2 j2 j2' s (hnext hj2') hk hk2 hj2 he hs
    ·exact h.apart k k' t2 t2' j2 j2' s hne hk2 hk2' hj2 hj2' hs he
  ·obtain⟨k,hk⟩:=List.getElem?_of_mem ht2
   rcases ku hk with⟨rfl,rfl⟩|⟨hne,hk⟩
   ·obtain⟨s1,s2,s3,s4⟩:=hself j2 (hnext hj2) hb2
    exact⟨by dsimp only;rw[s3,r3,k2,s1],s2,by dsimp only;rw[s3];exact s4⟩
   ·obtain⟨s1,s2,s3⟩:=h.tx t2 (List.mem_of_getElem? hk) j2 hj2 hb2
    exact⟨by rw[<-s1];exact xo (k4 k t2 j2 hne hk hj2 hb2) _ _,s2,by dsimp only;omega⟩
  ·rcases ku ht2 with⟨rfl,rfl⟩|⟨hk,hk2⟩
   ·rcases ku ht2' with⟨rfl,rfl⟩|⟨hk',hk2'⟩
    ·exact absurd rfl hne
    ·obtain⟨s1,s2,s3,s4⟩:=hself j2 (hnext hj2) hb2
     dsimp only
     rw[s3]
     exact k4 k' t2' j2' hk' hk2' hj2' hb2'
   ·rcases ku ht2' with⟨rfl,rfl⟩|⟨hk',hk2'⟩
    ·obtain⟨s1,s2,s3,s4⟩:=hself j2' (hnext hj2') hb2'
     dsimp only
     rw[s3]
     exact fun e=>k4 k t2 j2 hk hk2 hj2 hb2 e.symm
    ·exact h.txs k k' t2 t2' j2 j2' hne hk2 hk2' hj2 hj2' hb2 hb2'
  ·rcases List.mem_append.1 hy with hy|hy
   ·have:=h.below y hy
    dsimp only
    omega
   ·obtain⟨e,he,rfl⟩:=List.mem_map.1 hy
    exact(k3 (.inl (List.ne_nil_of_mem he))).2
end
section
variable {c:cN}
theorem dB.left{A B:List dh}(h:dB c (A++B)):dB c A:=fun A1 y B1 he=>h A1 y (B1++B) (by rw[he];simp)
def lK(A:List dh):Int:=A.foldl (fun s y=>if y.e.kind=4 then y.e.stamp else s) 0
def kD(x:bM)(A:List dh):Bool:=A.foldl (fun s y=>if y.e.kind=4 then(s||(decide (y.e.stamp>x.start)&&ij y.e.sig x.sig))else s) false
theorem vb(A:List dh)(y:dh):lK (A++[y])=if y.e.kind=4 then y.e.stamp else lK A:=by simp[lK,List.foldl_append]
theorem vw(x:bM)(A:List dh)(y:dh):kD x (A++[y])=if y.e.kind=4 then(kD x A||(decide (y.e.stamp>x.start)&&ij y.e.sig x.sig))else kD x A:=by simp[kD,List.foldl_append]
theorem qj{α:Type}{p:List α->Prop}(h0:p [])(h1:∀ l x,p l->p (l++[x])):∀ l,p l:=fun l=>by
 have h:∀ l:List α,p l.reverse:=by
  intro l
  induction l with
  | nil=>exact h0
  | cons x l ih=>rw[List.reverse_cons];exact h1 _ _ ih
 have:=h l.reverse
 rwa [List.reverse_reverse]at this
theorem jj{P P':List (List Int)}{told:List bM}{e:bM}(h:gG c P told e P')(h4:e.kind=4):e.stamp=(P.length:Int)+1/\e.sig=cn told/\aU e.sig/\sZ told/\∀ y∈told,y.kind≠4:=by
 cases h with
 | first h1=>omega
 | on _ h1=>omega
 | pub h1 h2 h3 h4 h5 h6=>exact⟨h4,h5,h6,h1,h2⟩
 | done _ h1=>omega
 | fail _ _ h1=>omega
theorem od{P P':List (List Int)}{told:List bM}{e:bM}(h:gG c P told e P')(h6:e.kind=6):(∀ y∈told,y.kind≠4)/\EndF c P told e:=by
 cases h with
 | first h1=>omega
 | on _ h1=>omega
 | pub _ _ h1=>omega
 | done _ h1=>omega
 | fail h1 h2 h3 h4=>exact⟨h2,h4⟩
theorem pub_is{A:List dh}:dB c A->lK A=(bP A).length:=by
 induction A using qj with
 | h0=>exact fun _=>rfl
 | h1 A y ih =>
  intro h
  rw[vb,ib]
  split
  ·rename_i h4
   rw[(jj (h A y [] rfl) h4).1,List.length_append]
   rfl
  ·exact ih h.left
theorem met_is{A:List dh}{x:bM}:dB c A->Met (bP A) x.start x.sig->kD x A=true:=by
 induction A using qj with
 | h0 =>
  rintro - ⟨k,g,h1,-⟩
  simp[bP]at h1
 | h1 A y ih =>
  intro h hm
  rw[vw]
  by_cases h4:y.e.kind=4
  ·rw[if_pos h4]
   obtain⟨q1,q2,-⟩:=jj (h A y [] rfl) h4
   obtain⟨k,g,m1,m2,m3⟩:=hm
   rw[ib,if_pos h4]at m1
   rcases Nat.lt_trichotomy k (bP A).length with hk|hk|hk
   ·rw[List.getElem?_append_left hk]at m1
    rw[ih h.left ⟨k,g,m1,m2,m3⟩]
    rfl
   ·subst hk
    rw[List.getElem?_append_right (Nat.le_refl _),Nat.sub_self]at m1
    simp only[gZ,Option.some.injEq]at m1
    subst m1
    rw[q1,m3]
    simp
    omega
   ·rw[List.getElem?_append_right (by omega)]at m1
    have:(1:Nat)<=k-(bP A).length:=by omega
    rw[List.getElem?_eq_none (by simpa using this)]at m1
    exact nomatch m1
  ·rw[if_neg h4]
   rw[ib,if_neg h4]at hm
   exact ih h.left hm
structure WhyF(c:cN)(A:List dh)(x:dh):Prop where
 bits:∀ j:Nat,bits .andNot .u64 ((aV (bh x.tx A)).getD j 0) (x.e.sig.getD j 0)=0
 ok:aU (aV (bh x.tx A))/\aU x.e.sig/\0<=x.e.start
 pubs:∀ y∈A,y.e.kind=4->aU y.e.sig
 most:lK A=(bP A).length
 how:(x.e.err=0/\cellsOf (bh x.tx A)=[])\/(x.e.err=3/\kD x.e A=true)\/(x.e.err=4/\x.e.start+c.ring<lK A)\/(x.e.err=5/\((cellsOf (bh x.tx A)).length:Int)=c.writes)\/(x.e.err=6/\lK A=c.stamps/\0<(cellsOf (bh x.tx A)).length)\/x.e.err=7\/x.e.err=8
theorem why_ok{A B:List dh}{x:dh}(h:dB c (A++x::B))(h6:x.e.kind=6):WhyF c A x:=by
 have hp:=pub_is h.left
 have hm:=fun hm=>met_is (x:=x.e) h.left hm
 obtain⟨s1,⟨o1,o2,o3⟩,hw⟩:=(od (h A x B rfl) h6).2
 refine⟨fun j=>?_,⟨o1,o2,o3⟩,fun y hy h4=>?_,hp,?_⟩
 ·rcases s1 with s1|⟨z,s1⟩
  ·rw[s1];exact wL o1 j
  ·rw[s1];exact wK o1 z j
 ·obtain⟨A1,A2,rfl⟩:=List.append_of_mem hy
  exact(jj (h A1 y (A2++x::B) (by simp)) h4).2.2.1
 ·rw[hp]
  rcases hw with⟨k1,k2,-⟩|⟨k1,k2⟩|⟨k1,k2⟩|⟨k1,k2⟩|⟨k1,k2,k3⟩|k1|k1
  ·exact .inl ⟨k1,k2⟩
  ·exact .inr (.inl ⟨k1,hm k2⟩)
  ·exact .inr (.inr (.inl ⟨k1,k2⟩))
  ·exact .inr (.inr (.inr (.inl ⟨k1,k2⟩)))
  ·exact .inr (.inr (.inr (.inr (.inl ⟨k1,k2,List.length_pos_iff.2 k3⟩))))
  ·exact .inr (.inr (.inr (.inr (.inr (.inl k1)))))
  ·exact .inr (.inr (.inr (.inr (.inr (.inr k1)))))
theorem vx{n:Int}{A:List dh}{y:dh}(h:y∈A)(ht:y.tx=n):y.e∈bh n A:=by
 unfold bh
 exact List.mem_map.2 ⟨y,List.mem_filter.2 ⟨h,by simpa using ht⟩,rfl⟩
theorem xw{P P':List (List Int)}{told:List bM}{e:bM}(h:gG c P told e P'){y:bM}(hy:y∈told):y.kind≠6:=by
 cases h with
 | first h1=>exact nomatch hy
 | on h1=>exact(h1.kinds y hy).2
 | pub h1=>exact(h1.kinds y hy).2
 | done h1=>exact(h1.kinds y hy).2
 | fail h1=>exact(h1.kinds y hy).2
theorem xQ{A B:List dh}{x:dh}(h:dB c (A++x::B))(h6:x.e.kind=6){k:Nat}{y:dh}(hy:(A++x::B)[k]?=some y)(ht:y.tx=x.tx):y.e.kind≠4/\k<=A.length:=by
 rcases Nat.lt_trichotomy k A.length with hk|hk|hk
 ·rw[List.getElem?_append_left hk]at hy
  refine⟨?_,by omega⟩
  have hm:=vx (List.mem_of_getElem? hy) ht
  exact(od (h A x B rfl) h6).1 _ hm
 ·subst hk
  rw[List.getElem?_append_right (Nat.le_refl _),Nat.sub_self]at hy
  simp only[gZ,Option.some.injEq]at hy
  subst hy
  exact⟨by omega,Nat.le_refl _⟩
 ·exfalso
  have hlt:=(List.getElem?_eq_some_iff.1 hy).1
  have hd:A++x::B=(A++x::B).take k++y::(A++x::B).drop (k+1):=by
   obtain⟨h1,h2⟩:=List.getElem?_eq_some_iff.1 hy
   rw[<-h2,<-List.drop_eq_getElem_cons h1,List.take_append_drop]
  have hx:x∈(A++x::B).take k:=by
   rw[List.take_append,List.take_of_length_le (by omega)]
   refine List.mem_append.2 (.inr ?_)
   rw[show k-A.length=(k-A.length-1)+1 by omega,List.take_succ_cons]
   exact List.mem_cons_self
  exact xw (h _ y _ hd) (vx hx ht.symm) h6
end
end Go.Proofs.YtgfogfciobmmpaaGreatDoor
