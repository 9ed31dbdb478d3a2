/- A part of the proof of a law of carouseltop: Told. -/
import Derived.Test.YtgfogfciobmmpaaGreatDoorBAt
import Derived.Deep.RegionLaw
set_option linter.unusedSimpArgs false
set_option linter.unusedVariables false
set_option maxRecDepth 100000
set_option maxHeartbeats 8000000
namespace Go.Proofs.YtgfogfciobmmpaaGreatDoor
open Go.RowKit
section
variable {w0:World}{X:List Nat}{Cs:List aw}{w:World}{x p L:Nat}{wv tv:Value}{t:bZ}{q:dX}{F:List Nat}
theorem o8(a b:List dh):aL (a++b)=aL a++aL b:=List.flatMap_append
theorem fQ:∀ (l:List dh) (k:Nat),aL (l.drop k)=(aL l).drop (k*19)
 | l,0=>by simp
 | [],k+1=>by simp[aL]
 | y::l,k+1=>by
  have e:aL (y::l)=fO y++aL l:=rfl
  rw[List.drop_succ_cons,fQ l k,e,show(k+1)*19=19+k*19 by omega,<-List.drop_drop,List.drop_left' (show(fO y).length=19 from rfl)]
theorem fJ(l:List dh):∀ v∈aL l,v.oneCell'=true:=fun v hv=>by
 unfold aL at hv
 obtain⟨y,_,hy⟩:=List.mem_flatMap.1 hv
 exact lA y v hy
theorem oJ(l:List bM)(k:Nat):bb (l.drop k)=(bb l).drop k:=by unfold bb;rw[List.map_drop]
theorem wI(a b:List bM):bb (a++b)=bb a++bb b:=List.map_append
theorem bE(l:List bM):(bb l).length=l.length:=by simp[bb]
theorem nG{P:Program}{w:World}(t ty e:TypeId)(i:TypeInfo)(ht:P.underlying t=some (.slice e))(hi:P.info? e=some i)(a:Option Addr)(c:Nat) :
  (Builtin.append_ #[t,t] ty #[.slice none 0 0,.slice a 0 c]).run P w=.ok (.slice none 0 0) w:=by
 cases a<;>simp[Builtin.append_,run_underlying ht,sizeOf,typeInfo,hi,Builtin.lenOf,Builtin.firstCells,loadCells,loadCellsFrom]
theorem Bx(hS:ah w0 X (ag x (lM q.g wv tv t)::bW tv (bb t.told)::Cs) w)(k:Nat)(hk:k<t.told.length)(hn:t.told.length<=1073741824) :
  Calls Tryz.prog 54 #[ptr x,.int .i64 k] w (fun e w'=>∃ ev,e=.returned ev/\ah w0 X (bW ev (bb (t.told.drop k))::ag x (lM q.g wv tv t)::bW tv (bb t.told)::Cs) w'):=by
 obtain⟨i0,yi,yz0,yz1,yz2⟩:=info_parts gf
 have c22:=hS.cell 22
 simp only[fu,gA,gZ,gS]at c22
 have hr:aD w 44 19 tv t.told.length (aL (bb t.told)):=by have h:=hS.h1;rw[<-bE t.told];exact h
 obtain⟨g,cap,rfl,hcap,hcm,hg,hrf,hcell,hfz⟩:=hr.read (by omega)
 have hnews:∀ (j:Nat) (u:Value),(aL (bb (t.told.drop k)))[j]?=some u->w.cell? ((⟨g,k*19,none⟩:Addr).add j)=some u:=fun j u hu=>by
  rw[oJ,fQ,List.getElem?_drop]at hu
  have e:(⟨g,k*19,none⟩:Addr).add j=⟨g,k*19+j,none⟩:=by unfold Addr.add;split<;>simp_all
  rw[e]
  exact hcell _ u hu
 have hlen:(aL (bb (t.told.drop k))).length=(t.told.length-k)*19:=by rw[fP,bE,List.length_drop]
 have hone:=fJ (bb (t.told.drop k))
 have hlb:(bb (t.told.drop k)).length=t.told.length-k:=by rw[bE,List.length_drop]
 have HS:=kH hS
 have HNW:=kH hnews
 have HL:=kH hlen
 have HONE:=kH hone
 have HLB:=kH hlb
 have HK1:IntKind.i64.wrap ((t.told.length:Int)-(k:Int))=((t.told.length-k:Nat):Int):=by rw[IntWalk.i64_in _ (by omega)];omega
 clear hS hr hnews hlen hone hlb hcell hfz hrf HK1
 have hmin:min (k:Int) (t.told.length:Int)=k:=by omega
 have hck:¬cap=k:=by omega
 have hkn:k<=t.told.length:=by omega
 unfold maxLen at hcm
 unfold ptr at *
 generalize t.told.length=n at *
 go_enter Tryz.func54,Tryz.ntmps54
 go_wp2_with fail
 go_region_law(refine step_append_lies _ rfl (.const (.slice none 0 0)) (.tmp 19) 37 rfl 0 44 i0 _ 19 152 Tryz.underlying37 yi yz0 yz1 yz2 rfl (by decide) (.slice none 0 0) 0 [] rfl (World.ownsRow_nil _ _ _ _) ⟨g,k*19,none⟩ (n-k) (cap-k) (aL (bb (t.told.drop k))) rfl (HL.out) (HNW.out) HONE.out (by omega) (by unfold maxLen;omega) (by omega) (Nat.zero_le _) _ rfl ?_;intro g2 cap2 w5 hown5 hgrow5 hat5 hgl5)
 all_goals
  have S5:=((HS.out.drew).nilRow 44 19).append hgrow5 hown5 hat5 (Nat.le_refl _)
  have HS5:=kH S5
  clear S5 hown5 hgrow5 hat5
  go_wp2
  go_ret
  refine⟨_,rfl,?_⟩
  unfold bW
  rw[HLB.out]
  have S6:=HS5.out
  simp only[Nat.zero_add,List.nil_append]at S6
  exact S6
theorem sW(hS:ah w0 X (ag x (lM q.g wv tv t)::bW tv (bb t.told)::Cs) w)(hn:t.told.length<=1073741824) :
  Calls Tryz.prog 54 #[ptr x,.int .i64 t.told.length] w (fun e w'=>e=.returned (.slice none 0 0)/\ah w0 X (ag x (lM q.g wv tv t)::bW tv (bb t.told)::Cs) w'):=by
 obtain⟨i0,yi,yz0,yz1,yz2⟩:=info_parts gf
 have c22:=hS.cell 22
 simp only[fu,gA,gZ,gS]at c22
 have hr:aD w 44 19 tv t.told.length (aL (bb t.told)):=by have h:=hS.h1;rw[<-bE t.told];exact h
 obtain⟨a,cap,rfl,hcap,hcm⟩:=hr.slice
 have HS:=kH hS
 clear hS hr
 unfold maxLen at hcm
 unfold ptr at *
 have hmin:min (t.told.length:Int) (t.told.length:Int)=t.told.length:=by omega
 have hap:∀ (ty:TypeId) (b:Option Addr) (c:Nat) (W:World),(Builtin.append_ #[37,37] ty #[.slice none 0 0,.slice b 0 c]).run Tryz.prog W=.ok (.slice none 0 0) W:=fun ty b c W=>nG _ ty _ i0 Tryz.underlying37 yi b c
 generalize t.told.length=n at *
 cases a with
 | none =>
  go_enter Tryz.func54,Tryz.ntmps54
  go_wp2_with fail
  go_region
  go_wp2
  go_ret
  exact⟨rfl,HS.out.drew⟩
 | some b =>
  by_cases hcn:cap=n
  all_goals
   go_enter Tryz.func54,Tryz.ntmps54
   go_wp2_with fail
   go_region
   go_wp2
   go_ret
   exact⟨rfl,HS.out.drew⟩
theorem DN(hS:ah w0 X (ag x (lM q.g wv tv t)::bW tv (bb t.told)::Cs) w)(k:Nat)(hk:k<=t.told.length)(hn:t.told.length<=1073741824) :
  Calls Tryz.prog 54 #[ptr x,.int .i64 k] w (fun e w'=>∃ ev,e=.returned ev/\ah w0 X (bW ev (bb (t.told.drop k))::ag x (lM q.g wv tv t)::bW tv (bb t.told)::Cs) w'):=by
 rcases Nat.lt_or_ge k t.told.length with h|h
 ·exact Bx hS k h hn
 ·obtain rfl:k=t.told.length:=Nat.le_antisymm hk h
  refine(sW hS hn).mono ?_
  rintro e w' ⟨rfl,S⟩
  refine⟨_,rfl,?_⟩
  rw[List.drop_length]
  exact S.nilRow _ _
theorem nJ(hS:ah w0 X (jQ x t F::Cs) w)(k:Nat)(hk:k<=t.told.length)(hn:t.told.length<=1073741824) :
  Calls Tryz.prog 54 #[ptr x,.int .i64 k] w (fun e w'=>∃ ev F',e=.returned ev/\ah w0 X (bW ev (bb (t.told.drop k))::jQ x t F'::Cs) w'):=by
 obtain⟨q,a,j,lv,tv,h1,h2,hS⟩:=hS.txOpen
 refine(DN hS k hk hn).mono ?_
 rintro e w' ⟨ev,rfl,S⟩
 have S2:ah w0 X (eK x q (ez t.way a) tv t (bW ev (bb (t.told.drop k))::qa a j lv t.way Cs)) w':=ah.txInN [_] S
 have S3:ah w0 X ([_]++eK x q (ez t.way a) tv t (qa a j lv t.way Cs)) w':=S
 have S4:ah w0 X (eK x q (ez t.way a) tv t (qa a j lv t.way (bW ev (bb (t.told.drop k))::Cs))) w':=by
  have h:=S2
  generalize t.way=y at h ⊢
  cases y with
  | no=>exact h
  | beg b=>exact ah.txInN [_] (ah.txOutN [_] (ah.txInN (Cs:=_) [_,_] (ah.txOutN [_,_] h).sw))
  | fet f=>exact ah.txInN [_,_,_] ((ah.txOutN [_,_,_] h).push [_,_])
  | com c=>exact ah.txInN [_,_,_] ((ah.txOutN [_,_,_] h).push [_,_])
  | bak b=>exact ah.txInN [_,_,_] ((ah.txOutN [_,_,_] h).push [_,_])
 obtain⟨F',S5⟩:=ah.txClose h1 h2 S4
 exact⟨ev,F',rfl,S5.sw⟩
end
end Go.Proofs.YtgfogfciobmmpaaGreatDoor
