/- A part of the proof of a law of carouseltop: CntMach CntNew15 Shelf Table Table2 List Log Log2. -/
import Derived.Test.YtgfogfciobmmpaaGreatDoorBAh
import Derived.Test.YtgfogfciobmmpaaGreatDoorBAj
import Derived.KernelRfl
import Derived.BigRegion
import Derived.Shelf.Small.Bits
import Derived.Shelf.Strconv.Itoa0
import Derived.Ground.Names2Prog
import Derived.Shelf.Slices.Clone
import Derived.Ground.SlgnProg
import Derived.Shelf.SlicesE.Clone
import Derived.Test.YtgfogfciobmmpaaGreatDoorProg
import Derived.Laws.CopyOwn
import Derived.Deep.RegionLaw
import Derived.Deep.AppendLies
set_option linter.unusedSimpArgs false
set_option linter.unusedVariables false
set_option maxRecDepth 100000
set_option maxHeartbeats 8000000
namespace Go.Proofs.YtgfogfciobmmpaaGreatDoor
open Go.RowKit
namespace Cnt
open Go.RowKit
structure MS where
 cell:Int
 add:Bool
 bys:Int
 phase:Int
 last:ax
def MS.cells(m:MS):Array Value:=#[.int .i64 m.cell,.bool m.add,.int .i64 m.bys,.int .i64 m.phase,.int .i64 m.last.kind,.int .i64 m.last.cell,.int .i64 m.last.value,.int .i64 m.last.code]
def Rep(w:World)(p:Nat)(m:MS)(F:List Nat):Prop:=F=[p]/\w.heap[p]?=some (.cells m.cells 227 (0,0))
def outM(m:MS)(v:Int):ax :=
 if m.phase=0 then bV m.cell
 else if m.phase=1 then(if m.add then bN m.cell (wrap64 (v+m.bys))else⟨6,0,wrap64 (v+m.bys),0⟩)
 else m.last
def stepM(m:MS)(v:Int):MS :=
 if m.phase=0 then {m with phase:=1}
 else if m.phase=1 then {m with phase:=if m.add then 2 else 3,last:=⟨6,0,wrap64 (v+m.bys),0⟩ }
 else m
def dl(p:Nat)(m:MS)(F:List Nat)(v:Int)(w:World)(e:Ending)(w':World):Prop :=
 e=.returned (outM m v).val/\w.grownBy w' (some p)/\∃ F',Rep w' p (stepM m v) F'/\∀ k∈F',k∈F\/w.heap.size<=k
theorem Next_calls(w:World)(p:Nat)(m:MS)(F:List Nat)(v:Int)(hr:Rep w p m F) :
  Calls Tryz.prog 285 #[.pointer (some ⟨p,0,none⟩),.int .i64 v] w (dl p m F v w):=by
 obtain⟨rfl,hp⟩:=hr
 have hlt:p<w.heap.size:=(Array.getElem?_eq_some_iff.1 hp).1
 obtain⟨c,ad,b,ph,⟨l0,l1,l2,l3⟩⟩:=m
 unfold MS.cells at hp
 have hc:∀ j,w.cell? ⟨p,j,none⟩=_:=fun j=>cell_of_row w p j _ _ _ hp
 have hf:∀ j,w.frozen? ⟨p,j,none⟩=false:=fun j=>frozen_of_row w p j _ _ hp
 have h0:=hc 0
 have h1:=hc 1
 have h2:=hc 2
 have h3:=hc 3
 have h4:=hc 4
 have h5:=hc 5
 have h6:=hc 6
 have h7:=hc 7
 simp at h0 h1 h2 h3 h4 h5 h6 h7
 have f3:=hf 3
 have f4:=hf 4
 have f5:=hf 5
 have f6:=hf 6
 have f7:=hf 7
 have HP:=kH hp
 clear hp hc hf
 by_cases hp0:ph=0
 ·subst hp0
  go_enter Tryz.func285,Tryz.ntmps285
  go_wp2
  refine bodyPost_ret (results_cell_row rfl _ _ _ _ _ _ _ rfl (aj (by simp)) Tryz.underlying109 rfl ap) rfl ⟨rfl,az (bD (ay _ _) _) _,[p],⟨rfl,?_⟩,fun k hk=>.inl (by simpa using hk)⟩
  exact kO (ab HP.out)
 ·have hp0':(ph == 0)=false:=by simpa using hp0
  by_cases hp1:ph=1
  ·subst hp1
   cases ad
   ·go_enter Tryz.func285,Tryz.ntmps285
    go_wp2
    refine bodyPost_ret (results_cell_row rfl _ _ _ _ _ _ _ rfl (aj (by simp)) Tryz.underlying109 rfl ap) rfl ⟨rfl,az (bD (bD (bD (bD (bD (ay _ _) _) _) _) _) _) _,[p],⟨rfl,?_⟩,fun k hk=>.inl (by simpa using hk)⟩
    exact kO (ab (ab (ab (ab (ab HP.out)))))
   ·go_enter Tryz.func285,Tryz.ntmps285
    go_wp2
    go_region
    go_wp2
    refine bodyPost_ret (results_cell_row rfl _ _ _ _ _ _ _ rfl (aj (by simp)) Tryz.underlying109 rfl ap) rfl ⟨rfl,aJ (az (bD (bD (bD (bD (bD (bD (ay _ _) _) _) _) _) _) _) _),[p],⟨rfl,?_⟩,fun k hk=>.inl (by simpa using hk)⟩
    exact kO (ab (ab (ab (ab (ab (ab HP.out))))))
  ·have hp1':(ph == 1)=false:=by simpa using hp1
   have ho:outM ⟨c,ad,b,ph,⟨l0,l1,l2,l3⟩⟩ v=⟨l0,l1,l2,l3⟩:=by simp[outM,hp0,hp1]
   have hs:stepM ⟨c,ad,b,ph,⟨l0,l1,l2,l3⟩⟩ v=⟨c,ad,b,ph,⟨l0,l1,l2,l3⟩⟩:=by simp[stepM,hp0,hp1]
   unfold dl
   rw[ho,hs]
   clear hp0 hp1 ho hs
   go_enter Tryz.func285,Tryz.ntmps285
   go_wp2
   refine bodyPost_ret (results_cell_row rfl _ _ _ _ _ _ _ rfl (aj (by simp)) Tryz.underlying109 rfl ap) rfl ⟨rfl,az (ay _ _) _,[p],⟨rfl,?_⟩,fun k hk=>.inl (by simpa using hk)⟩
   exact kO HP.out
end Cnt
namespace Cnt
open Go.RowKit
def arityI(c:Int):Int:=if c=1 then 2 else if c=2 then 1 else -1
theorem cS(c:Int)(w:World):Calls Tryz.prog 149 #[.int .i64 c] w (dm (.int .i64 (arityI c)) w):=by
 rcases(show c=1\/c=2\/(c≠1/\c≠2)from by omega)with rfl|rfl|⟨h1,h2⟩
 ·go_enter Tryz.func149,Tryz.ntmps149
  go_wp2
  go_ret
  exact⟨rfl,rfl⟩
 ·go_enter Tryz.func149,Tryz.ntmps149
  go_wp2
  go_ret
  exact⟨rfl,rfl⟩
 ·have e:arityI c = -1:=by simp[arityI,h1,h2]
  rw[e]
  have h1':(c == 1)=false:=by simpa using h1
  have h2':(c == 2)=false:=by simpa using h2
  clear h1 h2 e
  go_enter Tryz.func149,Tryz.ntmps149
  go_wp2
  go_ret
  exact⟨rfl,rfl⟩
def initM(base most call:Int)(xs:List Int):MS :=
 if xs.getD 0 0<0\/most<=xs.getD 0 0 then⟨0,false,0,3,⟨6,0,0,1⟩⟩
 else⟨base+xs.getD 0 0,decide (call=1),if call=1 then xs.getD 1 0 else 0,0,w0⟩
def jW(m:MS)(w:World)(e:Ending)(w':World):Prop :=
 e=.returned (.tuple #[.pointer (some ⟨w.heap.size,0,none⟩),.int .i64 0])/\Below w.heap.size w w'/\∃ F,Rep w' w.heap.size m F/\∀ k∈F,w.heap.size<=k
theorem list_two{xs:List Int}(h:xs.length=2):∃ i d,xs=[i,d]:=by
 match xs,h with
 | [i,d],_=>exact⟨i,d,rfl⟩
theorem list_one{xs:List Int}(h:xs.length=1):∃ i,xs=[i]:=by
 match xs,h with
 | [i],_=>exact⟨i,rfl⟩
theorem New_yes(w:World)(B:Nat)(base most call:Int)(a:Value)(xs:List Int)(ha:kf w B a xs)(hB:B<=w.heap.size)(hyes:qf base most (arityI call) xs.length=true) :
  Calls Tryz.prog 102 #[.int .i64 base,.int .i64 most,.int .i64 call,a] w (jW (initM base most call xs) w):=by
 obtain⟨hxl,hxr,a,ca,rfl,hca,ha⟩:=ha
 obtain⟨⟨hm0,hm16⟩,hb0,hb1,har⟩:=of_decide_eq_true hyes
 clear hyes
 have hcase:call=1/\xs.length=2\/(call=2/\xs.length=1):=by
  unfold arityI at har
  split at har
  ·left;omega
  ·split at har
   ·right;omega
   ·omega
 rcases hcase with⟨rfl,hl⟩|⟨rfl,hl⟩
 ·obtain⟨i,d,rfl⟩:=list_two hl
  rcases ha with h|⟨b,off,rfl,hBb,hcell⟩
  ·cases h
  have c0:=hcell 0 (by simp)
  have c1:=hcell 1 (by simp)
  simp at c0 c1
  have hri:=hxr i (by simp)
  have hrd:=hxr d (by simp)
  have hbs:b<w.heap.size:=by omega
  have hbne:b≠w.heap.size:=by omega
  clear hcell hl har hxr
  rcases(show i<0\/(0<=i/\most<=i)\/(0<=i/\i<most)from by omega)with h|⟨h,h'⟩|⟨h,h'⟩
  ·have hin:initM base most 1 [i,d]=⟨0,false,0,3,⟨6,0,0,1⟩⟩:=if_pos (.inl (by simpa using h))
   rw[hin];clear hin
   go_enter Tryz.func102,Tryz.ntmps102
   go_wp2_with(go_at_call 149;refine(cS _ _).mono ?_;rintro e w' ⟨rfl,rfl⟩;simp only[show arityI 1=2 from rfl])
   go_ret2
   exact⟨rfl,ai _ _,_,⟨rfl,Go.heap_alloc_new _ _⟩,by simp⟩
  ·have hin:initM base most 1 [i,d]=⟨0,false,0,3,⟨6,0,0,1⟩⟩:=if_pos (.inr (by simpa using h'))
   rw[hin];clear hin
   go_enter Tryz.func102,Tryz.ntmps102
   go_wp2_with(go_at_call 149;refine(cS _ _).mono ?_;rintro e w' ⟨rfl,rfl⟩;simp only[show arityI 1=2 from rfl])
   go_ret2
   exact⟨rfl,ai _ _,_,⟨rfl,Go.heap_alloc_new _ _⟩,by simp⟩
  ·have hin:initM base most 1 [i,d]=⟨base+i,true,d,0,w0⟩:=by
    rw[initM,if_neg (by simp;omega)];simp
   rw[hin];clear hin
   go_enter Tryz.func102,Tryz.ntmps102
   go_wp2_with(go_at_call 149;refine(cS _ _).mono ?_;rintro e w' ⟨rfl,rfl⟩;simp only[show arityI 1=2 from rfl])
   go_ret2
   exact⟨rfl,ai _ _,_,⟨rfl,Go.heap_alloc_new _ _⟩,by simp⟩
 ·obtain⟨i,rfl⟩:=list_one hl
  rcases ha with h|⟨b,off,rfl,hBb,hcell⟩
  ·cases h
  have c0:=hcell 0 (by simp)
  simp at c0
  have hri:=hxr i (by simp)
  have hbs:b<w.heap.size:=by omega
  have hbne:b≠w.heap.size:=by omega
  clear hcell hl har hxr
  rcases(show i<0\/(0<=i/\most<=i)\/(0<=i/\i<most)from by omega)with h|⟨h,h'⟩|⟨h,h'⟩
  ·have hin:initM base most 2 [i]=⟨0,false,0,3,⟨6,0,0,1⟩⟩:=if_pos (.inl (by simpa using h))
   rw[hin];clear hin
   go_enter Tryz.func102,Tryz.ntmps102
   go_wp2_with(go_at_call 149;refine(cS _ _).mono ?_;rintro e w' ⟨rfl,rfl⟩;simp only[show arityI 2=1 from rfl])
   go_ret2
   exact⟨rfl,ai _ _,_,⟨rfl,Go.heap_alloc_new _ _⟩,by simp⟩
  ·have hin:initM base most 2 [i]=⟨0,false,0,3,⟨6,0,0,1⟩⟩:=if_pos (.inr (by simpa using h'))
   rw[hin];clear hin
   go_enter Tryz.func102,Tryz.ntmps102
   go_wp2_with(go_at_call 149;refine(cS _ _).mono ?_;rintro e w' ⟨rfl,rfl⟩;simp only[show arityI 2=1 from rfl])
   go_ret2
   exact⟨rfl,ai _ _,_,⟨rfl,Go.heap_alloc_new _ _⟩,by simp⟩
  ·have hin:initM base most 2 [i]=⟨base+i,false,0,0,w0⟩:=by
    rw[initM,if_neg (by simp;omega)];simp
   rw[hin];clear hin
   go_enter Tryz.func102,Tryz.ntmps102
   go_wp2_with(go_at_call 149;refine(cS _ _).mono ?_;rintro e w' ⟨rfl,rfl⟩;simp only[show arityI 2=1 from rfl])
   go_ret2
   exact⟨rfl,ai _ _,_,⟨rfl,Go.heap_alloc_new _ _⟩,by simp⟩
end Cnt
end Go.Proofs.YtgfogfciobmmpaaGreatDoor
namespace Go.Proofs
open Go.Shelf
def Tryz.lays125_ren:Go.Shelf.Ren:=⟨fun | 125=>168 | 128=>210 | 129=>211|n=>n,fun | 46=>248 | 3=>3 | 51=>263 | 53=>40 | 4=>4 | 5=>5 | 9=>9|n=>n,fun|n=>n⟩
theorem Tryz.lays125:Go.Proofs.Lays.n125 Tryz.prog Tryz.lays125_ren:={
 mixed:=by kernel_rfl
 f125:=Tryz.func168.trans (congrArg some (by kernel_rfl))
 f128:=Tryz.func210.trans (congrArg some (by kernel_rfl))
 f129:=Tryz.func211.trans (congrArg some (by kernel_rfl))
 t3:=Tryz.underlying3
 a3:=Tryz.isAgg3
 z3:=Tryz.sizeOf3
 v3:=Tryz.zeroValue3
 t4:=Tryz.underlying4
 a4:=Tryz.isAgg4
 z4:=Tryz.sizeOf4
 v4:=Tryz.zeroValue4
 t5:=Tryz.underlying5
 a5:=Tryz.isAgg5
 z5:=Tryz.sizeOf5
 v5:=Tryz.zeroValue5
 t9:=Tryz.underlying9
 a9:=Tryz.isAgg9
 z9:=Tryz.sizeOf9
 v9:=Tryz.zeroValue9
 t46:=Tryz.underlying248
 a46:=Tryz.isAgg248
 z46:=Tryz.sizeOf248
 v46:=Tryz.zeroValue248
 t51:=Tryz.underlying263
 a51:=Tryz.isAgg263
 z51:=Tryz.sizeOf263
 v51:=Tryz.zeroValue263
 t53:=Tryz.underlying40
 a53:=Tryz.isAgg40
 z53:=Tryz.sizeOf40
 v53:=Tryz.zeroValue40}
theorem Tryz.bits_Len(x:Int)(w:World)(h0:0<=x)(h1:x<=18446744073709551615) :
  Calls Tryz.prog 168 #[.int .u64 x] w fun e w'=>e=.returned (.int .i64 (Lib.bitLen x.toNat))/\w'=w:=Any.bits_Len Tryz.lays125 x w h0 h1
def Tryz.clonestr_ren:Go.Shelf.Ren:=⟨fun | 41=>33|n=>n,fun | 22=>25 | 23=>9 | 4=>4|n=>n,fun|n=>n⟩
theorem Tryz.clonestr:Go.Proofs.SlLaysE0.n41 Tryz.prog Tryz.clonestr_ren:={
 mixed:=by kernel_rfl
 f41:=⟨Tryz.f33.name,by decide,Tryz.func33.trans (congrArg some (by kernel_rfl))⟩
 t4:=Tryz.underlying4
 a4:=Tryz.isAgg4
 z4:=Tryz.sizeOf4
 v4:=Tryz.zeroValue4
 t22:=Tryz.underlying25
 a22:=Tryz.isAgg25
 z22:=Tryz.sizeOf25
 v22:=Tryz.zeroValue25}
open Go.RowKit Go.Lib in
theorem Tryz.Clone_str(i0:TypeInfo)(z:Value)(size bytes:Nat)(hi:Tryz.prog.info? 9=some i0)(hz0:i0.zero=some z)(hz1:i0.size=size)(hz2:i0.bytes=bytes)(hzs:z.cells.size=size)(hsz:0<size)(z23:∀ w,(Go.sizeOf 9).run Tryz.prog w=.ok size w)(b off n c:Nat)(news:List Value)(w:World)(hl:news.length=n*size)(hn:n<=maxLen)(hbig:n*bytes<=140737488355328)(hc:∀ j u,news[j]?=some u->w.cell? ⟨b,off+j,none⟩=some u)(h1:∀ u∈news,u.oneCell'=true) :
  Calls Tryz.prog 33 #[.slice (some ⟨b,off,none⟩) n c] w fun e w'=>∃ v',e=.returned v'/\w'.ownsRow w.heap.size 9 size v' n news/\v'≠.slice none 0 0/\Below w.heap.size w w':=AnyE.slices_Clone Tryz.clonestr i0 z size bytes hi hz0 hz1 hz2 hzs hsz z23 b off n c news w hl hn hbig hc h1
open Go.RowKit Go.Lib in
theorem Tryz.Clone_str_nil(n c:Nat)(w:World) :
  Calls Tryz.prog 33 #[.slice none n c] w fun e w'=>e=.returned (.slice none 0 0)/\w'=w:=AnyE.slices_Clone_nil Tryz.clonestr n c w
def Tryz.clonei64_ren:Go.Shelf.Ren:=⟨fun | 41=>35|n=>n,fun | 22=>66 | 23=>2 | 4=>4|n=>n,fun|n=>n⟩
theorem Tryz.clonei64:Go.Proofs.SlLaysE0.n41 Tryz.prog Tryz.clonei64_ren:={
 mixed:=by kernel_rfl
 f41:=⟨Tryz.f35.name,by decide,Tryz.func35.trans (congrArg some (by kernel_rfl))⟩
 t4:=Tryz.underlying4
 a4:=Tryz.isAgg4
 z4:=Tryz.sizeOf4
 v4:=Tryz.zeroValue4
 t22:=Tryz.underlying66
 a22:=Tryz.isAgg66
 z22:=Tryz.sizeOf66
 v22:=Tryz.zeroValue66}
open Go.RowKit Go.Lib in
theorem Tryz.Clone_i64(i0:TypeInfo)(z:Value)(size bytes:Nat)(hi:Tryz.prog.info? 2=some i0)(hz0:i0.zero=some z)(hz1:i0.size=size)(hz2:i0.bytes=bytes)(hzs:z.cells.size=size)(hsz:0<size)(z23:∀ w,(Go.sizeOf 2).run Tryz.prog w=.ok size w)(b off n c:Nat)(news:List Value)(w:World)(hl:news.length=n*size)(hn:n<=maxLen)(hbig:n*bytes<=140737488355328)(hc:∀ j u,news[j]?=some u->w.cell? ⟨b,off+j,none⟩=some u)(h1:∀ u∈news,u.oneCell'=true) :
  Calls Tryz.prog 35 #[.slice (some ⟨b,off,none⟩) n c] w fun e w'=>∃ v',e=.returned v'/\w'.ownsRow w.heap.size 2 size v' n news/\v'≠.slice none 0 0/\Below w.heap.size w w':=AnyE.slices_Clone Tryz.clonei64 i0 z size bytes hi hz0 hz1 hz2 hzs hsz z23 b off n c news w hl hn hbig hc h1
open Go.RowKit Go.Lib in
theorem Tryz.Clone_i64_nil(n c:Nat)(w:World) :
  Calls Tryz.prog 35 #[.slice none n c] w fun e w'=>e=.returned (.slice none 0 0)/\w'=w:=AnyE.slices_Clone_nil Tryz.clonei64 n c w
def Tryz.cloneev_ren:Go.Shelf.Ren:=⟨fun | 41=>22|n=>n,fun | 22=>37 | 23=>44 | 4=>4|n=>n,fun|n=>n⟩
theorem Tryz.cloneev:Go.Proofs.SlLaysE0.n41 Tryz.prog Tryz.cloneev_ren:={
 mixed:=by kernel_rfl
 f41:=⟨Tryz.f22.name,by decide,Tryz.func22.trans (congrArg some (by kernel_rfl))⟩
 t4:=Tryz.underlying4
 a4:=Tryz.isAgg4
 z4:=Tryz.sizeOf4
 v4:=Tryz.zeroValue4
 t22:=Tryz.underlying37
 a22:=Tryz.isAgg37
 z22:=Tryz.sizeOf37
 v22:=Tryz.zeroValue37}
open Go.RowKit Go.Lib in
theorem Tryz.Clone_ev(i0:TypeInfo)(z:Value)(size bytes:Nat)(hi:Tryz.prog.info? 44=some i0)(hz0:i0.zero=some z)(hz1:i0.size=size)(hz2:i0.bytes=bytes)(hzs:z.cells.size=size)(hsz:0<size)(z23:∀ w,(Go.sizeOf 44).run Tryz.prog w=.ok size w)(b off n c:Nat)(news:List Value)(w:World)(hl:news.length=n*size)(hn:n<=maxLen)(hbig:n*bytes<=140737488355328)(hc:∀ j u,news[j]?=some u->w.cell? ⟨b,off+j,none⟩=some u)(h1:∀ u∈news,u.oneCell'=true) :
  Calls Tryz.prog 22 #[.slice (some ⟨b,off,none⟩) n c] w fun e w'=>∃ v',e=.returned v'/\w'.ownsRow w.heap.size 44 size v' n news/\v'≠.slice none 0 0/\Below w.heap.size w w':=AnyE.slices_Clone Tryz.cloneev i0 z size bytes hi hz0 hz1 hz2 hzs hsz z23 b off n c news w hl hn hbig hc h1
open Go.RowKit Go.Lib in
theorem Tryz.Clone_ev_nil(n c:Nat)(w:World) :
  Calls Tryz.prog 22 #[.slice none n c] w fun e w'=>e=.returned (.slice none 0 0)/\w'=w:=AnyE.slices_Clone_nil Tryz.cloneev n c w
def Tryz.clonereg_ren:Go.Shelf.Ren:=⟨fun | 41=>34|n=>n,fun | 22=>22 | 23=>90 | 4=>4|n=>n,fun|n=>n⟩
theorem Tryz.clonereg:Go.Proofs.SlLaysE0.n41 Tryz.prog Tryz.clonereg_ren:={
 mixed:=by kernel_rfl
 f41:=⟨Tryz.f34.name,by decide,Tryz.func34.trans (congrArg some (by kernel_rfl))⟩
 t4:=Tryz.underlying4
 a4:=Tryz.isAgg4
 z4:=Tryz.sizeOf4
 v4:=Tryz.zeroValue4
 t22:=Tryz.underlying22
 a22:=Tryz.isAgg22
 z22:=Tryz.sizeOf22
 v22:=Tryz.zeroValue22}
open Go.RowKit Go.Lib in
theorem Tryz.Clone_reg(i0:TypeInfo)(z:Value)(size bytes:Nat)(hi:Tryz.prog.info? 90=some i0)(hz0:i0.zero=some z)(hz1:i0.size=size)(hz2:i0.bytes=bytes)(hzs:z.cells.size=size)(hsz:0<size)(z23:∀ w,(Go.sizeOf 90).run Tryz.prog w=.ok size w)(b off n c:Nat)(news:List Value)(w:World)(hl:news.length=n*size)(hn:n<=maxLen)(hbig:n*bytes<=140737488355328)(hc:∀ j u,news[j]?=some u->w.cell? ⟨b,off+j,none⟩=some u)(h1:∀ u∈news,u.oneCell'=true) :
  Calls Tryz.prog 34 #[.slice (some ⟨b,off,none⟩) n c] w fun e w'=>∃ v',e=.returned v'/\w'.ownsRow w.heap.size 90 size v' n news/\v'≠.slice none 0 0/\Below w.heap.size w w':=AnyE.slices_Clone Tryz.clonereg i0 z size bytes hi hz0 hz1 hz2 hzs hsz z23 b off n c news w hl hn hbig hc h1
open Go.RowKit Go.Lib in
theorem Tryz.Clone_reg_nil(n c:Nat)(w:World) :
  Calls Tryz.prog 34 #[.slice none n c] w fun e w'=>e=.returned (.slice none 0 0)/\w'=w:=AnyE.slices_Clone_nil Tryz.clonereg n c w
end Go.Proofs
namespace Go.Proofs.YtgfogfciobmmpaaGreatDoor
open Go.RowKit
section
variable {w0:World}{X:List Nat}{Cs:List aw}{w:World}{t sb:Nat}{lv:Value}{most sh:Nat}{sl:List Int}{l:List (Int×Int)}
theorem infoWr2:(Tryz.prog.info? 218).map (fun i=>(i.zero,i.size,i.bytes))=some (some (.agg #[.int .i64 0,.int .i64 0]),2,16):=by kernel_rfl
theorem ah.rowSet{e:TypeId}{sz g n cap:Nat}{xs:List Value}(h:ah w0 X (aN e sz (.slice (some ⟨g,0,none⟩) n cap) n xs::Cs) w)(j:Nat)(u:Value):ah w0 X (aN e sz (.slice (some ⟨g,0,none⟩) n cap) n (xs.set j u)::Cs) (w.setCell ⟨g,j,none⟩ u):=by
 have hr:aD w e sz (.slice (some ⟨g,0,none⟩) n cap) n xs:=h.h0
 obtain⟨h1,h2⟩:=World.ownsRow.stored (w:=w) hr j u
 refine h.call1 (C3:=[aN e sz (.slice (some ⟨g,0,none⟩) n cap) n (xs.set j u)]) ⟨(aQ.refl _ w).set (p:=⟨g,j,none⟩) (.inl (by simp[aN,bR])) u,fun c hc=>by rw[List.mem_singleton.1 hc];exact h1,by simp[cu,aN,bR],fun x hx=>.inl (by simpa[cu,aN,bR]using hx)⟩
theorem CN{l:List (Int×Int)}{c v:Int}(h:c∉l.map (·.1)):l.map (fun w=>if w.1=c then(c,v)else w)=l:=by
 induction l with
 | nil=>rfl
 | cons y l ih =>
  rw[List.map_cons]at h ⊢
  rw[List.mem_cons,not_or]at h
  rw[if_neg (fun e=>h.1 e.symm),ih h.2]
theorem pZ:∀ (l:List (Int×Int)) (i:Nat) (c v u:Int),l[i]?=some (c,u)->(l.map (·.1)).Nodup->(cL l).set (i*2+1) (.int .i64 v)=cL (l.map (fun w=>if w.1=c then(c,v)else w))
 | [],i,c,v,u,h,_=>by simp at h
 | y::l,0,c,v,u,h,hd=>by
  simp at h
  subst h
  rw[List.map_cons,List.nodup_cons]at hd
  rw[List.map_cons,if_pos rfl,CN hd.1]
  rfl
 | y::l,i+1,c,v,u,h,hd=>by
  rw[List.map_cons,List.nodup_cons]at hd
  have hne:y.1≠c:=fun e=>hd.1 (List.mem_map.2 ⟨(c,u),List.mem_of_getElem? (by simpa using h),e.symm⟩)
  have ih:=pZ l i c v u (by simpa using h) hd.2
  rw[List.map_cons,if_neg hne]
  have e1:cL (y::l)=.int .i64 y.1::.int .i64 y.2::cL l:=rfl
  have e2:∀ m,cL (y::m)=.int .i64 y.1::.int .i64 y.2::cL m:=fun _=>rfl
  rw[e1,e2,<-ih,show(i+1)*2+1=i*2+1+1+1 by omega]
  rfl
theorem vh{l:List (Int×Int)}{c:Int}(h:c∉l.map (·.1)):eR l c=none:=by
 unfold eR
 rw[Option.map_eq_none_iff,List.find?_eq_none]
 intro x hx hxc
 exact h (List.mem_map.2 ⟨x,hx,by simpa using hxc⟩)
theorem Cz{l:List (Int×Int)}{c u:Int}:∀ {i:Nat},l[i]?=some (c,u)->(l.map (·.1)).Nodup->eR l c=some u:=by
 induction l with
 | nil=>intro i h;simp at h
 | cons y l ih =>
  intro i h hd
  rw[List.map_cons,List.nodup_cons]at hd
  unfold eR
  cases i with
  | zero =>
   simp at h
   subst h
   simp
  | succ i =>
   have hne:y.1≠c:=fun e=>hd.1 (List.mem_map.2 ⟨(c,u),List.mem_of_getElem? (by simpa using h),e.symm⟩)
   rw[List.find?_cons_of_neg (by simpa using hne)]
   exact ih (by simpa using h) hd.2
def C7:Option Int->Value
 | some v=>.tuple #[.int .i64 v,.bool true]
 | none=>.tuple #[.int .i64 0,.bool false]
theorem Get_tab(hS:ah w0 X (ei t sb most lv sh sl l Cs) w)(hr:rV most sh sl l)(hd:(l.map (·.1)).Nodup)(c:Int)(hc:0<=c/\c<=1024) :
  Calls Tryz.prog 108 #[ptr t,.int .i64 c] w (fun e w'=>e=.returned (C7 (eR l c))/\ah w0 X (ei t sb most lv sh sl l Cs) w'):=by
 have HF:=kH (vY hS hr c hc)
 have HR:=kH hr
 have hc0:0<=c:=hc.1
 have hd0:decide (c<0)=false:=by simp;omega
 generalize ho:eR l c=o
 have HO:=kH ho
 clear hS hr ho
 unfold ptr at *
 go_enter Tryz.func108,Tryz.ntmps108
 go_wp2_with fail
 refine HF.out.mono ?_
 rintro e w1 ⟨k,b,rfl,hf,S1⟩
 have HS1:=kH S1
 cases hf with
 | yes hk hv hi =>
  rename_i i
  unfold ei at S1
  have c1:=S1.cell 1
  have c2:=S1.cell 2
  have bk:=S1.cell1 k
  simp only[iV,gA,gZ,gS]at c1 c2
  rw[ej sl k hk,hv]at bk
  have hil:i<l.length:=by have:=(List.getElem?_eq_some_iff.1 hi).1;simpa using this
  have hrow:aD w1 _ _ _ _ _:=S1.h2
  obtain⟨g,cap,rfl,hcap,hcm,hgl,-,hcell,-⟩:=hrow.read (by omega)
  obtain⟨d0,u,hu,d1⟩:=p9 hcell hi
  have hown:o=some u:=HO.out.symm.trans (Cz hu hd)
  have HOW:=kH hown
  have hlc:l.length<=24:=by have:=HR.out.few;have:=HR.out.mosts;omega
  have hkl:k<sl.length:=hk
  have hs64:=HR.out.sizes.2.2.2.1
  clear S1 hrow hcell hi hu hown hv hd hk
  unfold maxLen at hcm
  go_wp2_with fail
  go_quiet(fail)
  go_wp2
  go_ret2
  exact⟨by rw[HOW.out];rfl,HS1.out.drewN _⟩
 | no hk hv hno hd' =>
  have hown:o=none:=HO.out.symm.trans (vh hno)
  have HOW:=kH hown
  clear S1 hk hv hno hd' hown hd
  go_wp2
  go_ret2
  exact⟨by rw[HOW.out];rfl,HS1.out⟩
def PutPost(w0:World)(X:List Nat)(Cs:List aw)(t sb most sh:Nat)(l:List (Int×Int))(c v:Int)(e:Ending)(w':World):Prop :=
 (e=.returned (.int .i64 0)/\¬((eR l c).isNone=true/\l.length=most)/\∃ lv sl,rV most sh sl (fT l c v)/\ah w0 X (ei t sb most lv sh sl (fT l c v) Cs) w') \/
 (e=.returned (.int .i64 2)/\((eR l c).isNone=true/\l.length=most)/\∃ lv sl,rV most sh sl l/\ah w0 X (ei t sb most lv sh sl l Cs) w')
theorem mQ{l:List (Int×Int)}{c u:Int}(h:eR l c=some u):(eR l c).isNone=false:=by rw[h];rfl
theorem xi(l:List (Int×Int))(c v:Int):cL l++[.int .i64 c,.int .i64 v]=cL (l++[(c,v)]):=by
 unfold cL
 rw[List.flatMap_append]
 rfl
theorem Put_tab(hS:ah w0 X (ei t sb most lv sh sl l Cs) w)(hr:rV most sh sl l)(hd:(l.map (·.1)).Nodup)(c v:Int)(hc:0<=c/\c<1024)(hv64:aI v) :
  Calls Tryz.prog 111 #[ptr t,.int .i64 c,.int .i64 v] w (PutPost w0 X Cs t sb most sh l c v):=by
 obtain⟨i0,yi,yz0,yz1,yz2⟩:=info_parts infoWr2
 have HF:=kH (vY hS hr c ⟨hc.1,by omega⟩)
 have HR:=kH hr
 have HC:=kH hc
 have HV:=kH hv64
 obtain⟨hc0,hc1⟩:=hc
 have hd0:decide (c<0)=false:=by simp;omega
 have hd1:decide (1024<=c)=false:=by simp;omega
 clear hS hr hv64
 unfold ptr at *
 go_enter Tryz.func111,Tryz.ntmps111
 go_wp2_with fail
 refine HF.out.mono ?_
 rintro e w1 ⟨k,b,rfl,hf,S1⟩
 have HS1:=kH S1
 have hlc:l.length<=24:=by have:=HR.out.few;have:=HR.out.mosts;omega
 have hs64:=HR.out.sizes.2.2.2.1
 cases hf with
 | yes hk hv hi =>
  rename_i i
  unfold ei at S1
  have c1:=S1.cell 1
  have c2:=S1.cell 2
  have bk:=S1.cell1 k
  simp only[iV,gA,gZ,gS]at c1 c2
  rw[ej sl k hk,hv]at bk
  have hil:i<l.length:=by have:=(List.getElem?_eq_some_iff.1 hi).1;simpa using this
  have hrow:aD w1 _ _ _ _ _:=S1.h2
  obtain⟨g,cap,rfl,hcap,hcm,hgl,-,hcell,hfz⟩:=hrow.read (by omega)
  obtain⟨d0,u,hu,d1⟩:=p9 hcell hi
  have hf1:=hfz (i*2+1)
  have HOW:=kH (Cz hu hd)
  have HWM:=kH (pZ l i c v u hu hd)
  have hkl:k<sl.length:=hk
  clear S1 hrow hcell hi hu hv hd hk hfz
  unfold maxLen at hcm
  go_wp2_with fail
  go_region
  all_goals
   go_wp2
   go_ret
   refine .inl ⟨rfl,fun h=>?_,?_⟩
   ·have:=h.1
    rw[mQ HOW.out]at this
    simp at this
   ·have hput:fT l c v=l.map (fun w=>if w.1=c then(c,v)else w):=gT (mQ HOW.out)
    have S2:=(show ah w0 X (gy _ l::ag t _::ag sb _::Cs) w1 from HS1.out.f2).rowSet (i*2+1) (.int .i64 v)
    rw[HWM.out]at S2
    refine⟨.slice (some ⟨g,0,none⟩) l.length cap,sl,?_,?_⟩
    ·rw[hput]
     have h:=HR.out
     refine⟨by rw[gM];exact h.ok,h.wide,h.lens,h.mosts,by rw[List.length_map];exact h.few,fun y hy=>?_⟩
     obtain⟨z,hz,rfl⟩:=List.mem_map.1 hy
     split
     ·exact⟨HC.out.1,HC.out.2,HV.out⟩
     ·exact h.cells z hz
    ·rw[hput]
     have S3:ah w0 X (ei t sb most (.slice (some ⟨g,0,none⟩) l.length cap) sh sl (l.map (fun w=>if w.1=c then(c,v)else w)) Cs) (w1.setCell ⟨g,i*2+1,none⟩ (.int .i64 v)):=by
      unfold ei gy
      rw[List.length_map]
      exact S2.b2
     first|exact S3|exact S3.drew
 | no hk hv hno hd' =>
  have hnone:(eR l c).isNone=true:=by rw[vh hno];rfl
  have HNO:=kH hnone
  have HPUT:=kH (gU (v:=v) (lz hnone))
  have HFN:=kH (wW.no (sh:=sh) hk hv hno hd')
  have HHD:=kH hd
  have S1u:=S1
  unfold ei at S1u
  have c0:=S1u.cell 0
  have c1:=S1u.cell 1
  have c2:=S1u.cell 2
  have f2:=S1u.froz 2
  have bk:=S1u.cell1 k
  have fk:=S1u.froz1 k
  have htb:=S1u.ne01
  have htl:=af S1u.h0
  have hsbl:=af S1u.h1
  simp only[iV,gA,gZ,gS]at c0 c1 c2
  rw[ej sl k hk]at bk
  have hrow:aD w1 _ _ _ _ _:=S1u.h2
  obtain⟨la,lc,hlv,hlcap,hlm⟩:=hrow.slice
  have HROW:=kH hrow
  have HLV:=kH hlv
  have hkl:k<sl.length:=hk
  rw[hlv]at c2
  generalize hln:l.length=ln at *
  have HLN:=kH hln
  clear hnone hk hv hno hd' hd S1 S1u hrow hlv hln
  by_cases hfull:ln=most
  ·have hfb:((ln:Int) == (most:Int))=true:=by simp;omega
   have HFU:=kH hfull
   clear hfull
   go_wp2_with fail
   go_quiet(fail)
   go_wp2
   go_ret
   exact .inr ⟨rfl,⟨HNO.out,by rw[HLN.out];exact HFU.out⟩,lv,sl,HR.out,HS1.out.drewN _⟩
  ·have hfb:((ln:Int) == (most:Int))=false:=by simp;omega
   have HFU:=kH hfull
   have hlt:ln<most:=by have:=HR.out.few;rw[HLN.out]at this;omega
   clear hfull
   go_wp2_with fail
   go_quiet(fail)
   go_wp2_with fail
   go_region
   have S2:=(show ah w0 X (ag t (iV most sb sl.length lv sh)::ag sb (gD sl)::gy lv l::Cs) _ from HS1.out.drewN (nq+1)).set1 k (.int .i64 (ln:Nat))
   have S3:ah w0 X (aN 218 2 (.slice la ln lc) ln (cL l)::ag t (iV most sb sl.length (.slice la ln lc) sh)::ag sb (.cells ((dH sl).setIfInBounds k (.int .i64 (ln:Nat))) 3 (0,0))::Cs) ((w1.drewN (nq+1)).setCell ⟨sb,k,none⟩ (.int .i64 (ln:Nat))):=by
    have h:=S2.f2
    unfold gy at h
    rw[HLV.out,HLN.out]at h
    exact h
   have HS3:=kH S3
   clear S2 S3
   go_wp2_with(at_builtin;refine wpList_append_lies _ rfl (.tmp 65) (.tmp 69) 165 rfl 0 218 i0 _ 2 16 Tryz.underlying165 yi yz0 yz1 yz2 rfl (by decide) (.slice la ln lc) ln (cL l) rfl (World.ownsRow.alloc HS3.out.h0 _) ⟨w1.heap.size,0,none⟩ 1 1 [.int .i64 c,.int .i64 v] rfl rfl (fun j u hu=>cG (w:=((w1.drewN (nq+1)).setCell ⟨sb,k,none⟩ (.int .i64 (ln:Nat))).alloc (.cells #[.int .i64 c,.int .i64 v] 218 (0,0))) (ar (w:=(w1.drewN (nq+1)).setCell ⟨sb,k,none⟩ (.int .i64 (ln:Nat))) (by simp)) j u hu) (by simp[Value.oneCell']) (by decide) (by unfold maxLen;omega) (by omega) (Nat.zero_le _) _ rfl ?_;intro g cap w5 hown5 hgrow5 hat5 hgl5;have S5:=(HS3.out.alloc _).append hgrow5 hown5 hat5 (Nat.le_refl _);have t2:=S5.cell1 2;have tf2:=S5.froz1 2;simp only[gA,gZ,gS]at t2;have HS5:=kH S5;clear S5 hown5 hgrow5 hat5 hgl5)
   go_ret
   have hR:=HR.out
   have hz:=hR.sizes
   have hroom:l.length+1<sl.length:=by
    have h1:=oQ hR.mosts.2
    rw[<-hR.lens]at h1
    rw[HLN.out]
    omega
   refine .inl ⟨rfl,(fun h=>HFU.out (by rw[<-HLN.out];exact h.2)),.slice (some ⟨g,0,none⟩) (ln+1) cap,sl.set k (ln:Nat),?_,?_⟩
   ·rw[HPUT.out]
    refine⟨?_,hR.wide,by rw[List.length_set];exact hR.lens,hR.mosts,by rw[List.length_append,List.length_singleton,HLN.out];omega,fun y hy=>?_⟩
    ·have h:=tab_add hR.ok HFN.out (by rw[List.length_map];exact hroom)
     rw[List.length_map,HLN.out]at h
     rw[List.map_append]
     exact h
    ·rcases List.mem_append.1 hy with hy|hy
     ·exact hR.cells y hy
     ·rw[List.mem_singleton.1 hy];exact⟨HC.out.1,HC.out.2,HV.out⟩
   ·have S6:=(HS5.out.set1 2 (.slice (some ⟨g,0,none⟩) (ln+1) cap)).b2
    rw[HPUT.out]
    unfold ei gy gD
    rw[List.length_set,List.length_append,List.length_singleton,HLN.out,<-xi,<-gW]
    exact S6
end
section
variable {w0:World}{X:List Nat}{Cs:List aw}{w:World}{t sb:Nat}{lv:Value}{most sh:Nat}{sl:List Int}{l:List (Int×Int)}
def rT(sl:List Int)(k:Nat):List Int:=List.replicate k (-1)++sl.drop k
theorem wB(sl:List Int)(k:Nat)(h:k<=sl.length):(rT sl k).length=sl.length:=by simp[rT];omega
theorem Dq(sl:List Int)(k:Nat)(h:k<sl.length):(rT sl k).set k (-1)=rT sl (k+1):=by
 unfold rT
 rw[List.set_append_right _ _ (by simp)]
 simp only[List.length_replicate,Nat.sub_self]
 rw[List.drop_eq_getElem_cons h,List.set_cons_zero,List.replicate_succ',List.append_assoc]
 rfl
theorem Dr(sl:List Int):rT sl sl.length=List.replicate sl.length (-1):=by simp[rT]
theorem s9(hS:ah w0 X (ei t sb most lv sh sl l Cs) w)(hN:sl.length<=64) :
  Calls Tryz.prog 169 #[ptr t] w (fun e w'=>e=.returned (.tuple #[])/\ah w0 X (ei t sb most (.slice none 0 0) sh (List.replicate sl.length (-1)) [] Cs) w'):=by
 unfold ei at hS
 have c1:=hS.cell 1
 have c2:=hS.cell 2
 have f2:=hS.froz 2
 simp only[iV,gA,gZ,gS]at c1 c2
 have S1:ah w0 X (ag t (iV most sb sl.length (.slice none 0 0) sh)::ag sb (gD sl)::gy lv l::Cs) (w.setCell ⟨t,2,none⟩ (.slice none 0 0)):=hS.set 2 (.slice none 0 0)
 have S2:ah w0 X (gy (.slice none 0 0) []::ag t (iV most sb sl.length (.slice none 0 0) sh)::ag sb (gD sl)::Cs) _:=(S1.f2.drop).nilRow _ _
 have HS2:=kH S2.b2
 have htl:=af hS.h0
 generalize hn:sl.length=n at *
 have HN:=kH hn
 clear hS S1 S2 hn
 unfold ptr
 go_enter Tryz.func169,Tryz.ntmps169
 go_wp2_with fail
 go_loopg[13] n (fun nn v13 wr=>∃ k:Nat,k<=n/\v13=.int .i64 k/\nn+k=n/\ah w0 X (ag t (iV most sb n (.slice none 0 0) sh)::ag sb (gD (rT sl k))::gy (.slice none 0 0) []::Cs) wr)
 case atStart=>exact⟨0,Nat.zero_le _,rfl,by omega,by have h:=HS2.out;simpa[rT]using h⟩
 case round =>
  obtain⟨k,hk,rfl,hn,S⟩:=hrel
  have HNN:=kH hn
  have HSR:=kH S
  have b1:=S.cell 1
  simp only[iV,gA,gZ,gS]at b1
  by_cases hkn:k<n
  ·have bk:=S.cell1 k
   have fk:=S.froz1 k
   rw[ej _ k (by rw[wB _ _ (by rw[HN.out];exact hk),HN.out];exact hkn)]at bk
   have hst:=HSR.out.set1 k (.int .i64 (-1))
   rw[gW,Dq sl k (by rw[HN.out];exact hkn)]at hst
   have HST:=kH hst
   clear S hn hst
   go_wp2
   go_roundg (n-(k+1))
   case measure=>have:=HNN.out;omega
   case rel=>exact⟨k+1,by omega,by go_num,by have:=HNN.out;omega,HST.out⟩
  ·have hke:k=n:=by omega
   subst hke
   clear S hn
   go_wp2
   go_end0
   refine⟨rfl,?_⟩
   have h:=HSR.out
   have e:rT sl k=List.replicate k (-1):=by
    have:=Dr sl
    rw[HN.out]at this
    exact this
   rw[e]at h
   unfold ei
   rw[List.length_replicate]
   exact h
theorem Ad:∀ m:Nat,m<25->1<=m->Lib.bitLen (2*m-1)=ft m:=by decide
theorem AU(n:Nat):madeCells #[.int .i64 0] n=dH (List.replicate n 0):=by
 apply Array.ext'
 rw[toList_madeCells_one]
 simp[dH]
theorem tR:(Tryz.prog.info? 3).map (fun i=>(i.zero,i.size,i.bytes))=some (some (.int .i64 0),1,8):=by kernel_rfl
theorem mk_ints(n:Nat)(L:Int)(hL:L=n)(hn:n<=1000)(w:World):(Instr.makeSlice 29 (.int .i64 L) (.int .i64 L)).run Tryz.prog w=.ok (.slice (some ⟨w.heap.size,0,none⟩) n n) (w.alloc (.cells (dH (List.replicate n 0)) 3)):=by
 subst hL
 obtain⟨i0,hi,hz0,hz1,hz2⟩:=info_parts tR
 have h:=run_make (P:=Tryz.prog) (w:=w) 29 3 i0 (.int .i64 0) Tryz.underlying29 hi hz0 .i64 .i64 n n (by omega) (by omega) (by rw[hz2];omega) (by omega)
 rw[hz1,Int.toNat_natCast,Nat.mul_one]at h
 rw[<-AU]
 exact h
theorem New_tab(hS:ah w0 X Cs w)(m:Nat)(hm:1<=m/\m<=24) :
  Calls Tryz.prog 107 #[.int .i64 m] w (fun e w'=>∃ t sb sl,e=.returned (.tuple #[ptr t,.int .i64 0])/\rV m (64-ft m) sl []/\ah w0 X (ei t sb m (.slice none 0 0) (64-ft m) sl [] Cs) w'):=by
 have HS:=kH hS
 obtain⟨hm1,hm2⟩:=hm
 have hw:=nV m
 have hbl:Lib.bitLen ((2*(m:Int)-1).toNat)=ft m:=by
  have:(2*(m:Int)-1).toNat=2*m-1:=by omega
  rw[this]
  exact Ad m (by omega) hm1
 have HL:=kH (fun w=>Tryz.bits_Len (2*(m:Int)-1) w (by omega) (by omega))
 rw[hbl]at HL
 have hroom:=oQ hm2
 generalize hwd:ft m=wd at *
 have HWD:=kH hwd
 have hN64:2 ^ wd<=64:=by
  rcases(show wd=1\/wd=2\/wd=3\/wd=4\/wd=5\/wd=6 by omega)with rfl|rfl|rfl|rfl|rfl|rfl<;>decide
 have hwr:wrap64 (2 ^ wd)=((2 ^ wd:Nat):Int):=by
  have h:((2 ^ wd:Nat):Int)=(2:Int) ^ wd:=by simp
  rw[<-h]
  unfold wrap64
  omega
 have hmk:=fun w=>mk_ints (2 ^ wd) (wrap64 (2 ^ wd)) hwr (by omega) w
 have hsub:IntKind.u64.wrap (64-(wd:Int))=((64-wd:Nat):Int):=by rw[IntKind.wrap_u64];omega
 have hsub2:(64:Int)-(wd:Int)=((64-wd:Nat):Int):=by omega
 generalize hNN:2 ^ wd=N at *
 have HNN:=kH hNN
 have HSUB:=kH hsub2
 generalize 64-wd=sh at *
 have hN0:0<N:=by omega
 clear hS hbl hwd hwr hNN hsub2
 go_enter Tryz.func107,Tryz.ntmps107
 go_wp2_with fail
 refine(HL.out _).mono ?_
 rintro e w1 ⟨rfl,rfl⟩
 go_wp2_with fail
 have S1:=(HS.out.new (gD (List.replicate N 0))).new (iV m w1.heap.size N (.slice none 0 0) sh)
 have S2:=(S1.nilRow 218 2).b2
 have hl0:(List.replicate N (0:Int)).length=N:=by simp
 have S3:ah w0 X (ei (w1.heap.size+1) w1.heap.size m (.slice none 0 0) sh (List.replicate N 0) [] Cs) ((w1.alloc (gD (List.replicate N 0))).alloc (iV m w1.heap.size N (.slice none 0 0) sh)):=by
  unfold ei
  rw[hl0]
  have e:(w1.alloc (gD (List.replicate N 0))).heap.size=w1.heap.size+1:=by simp
  rw[e]at S2
  exact S2
 refine(s9 S3 (by rw[hl0];exact hN64)).mono ?_
 rintro e w2 ⟨rfl,S4⟩
 have HS4:=kH S4
 clear S1 S2 S3 S4
 go_wp2
 go_ret2
 have hS4:=HS4.out
 rw[hl0]at hS4
 refine⟨_,_,_,rfl,⟨sf N sh hN0,by rw[HWD.out];have:=HSUB.out;omega,by rw[HWD.out,HNN.out];simp,⟨hm1,hm2⟩,Nat.zero_le _,fun y hy=>nomatch hy⟩,hS4⟩
end
section
variable {w0:World}{X:List Nat}{Cs:List aw}{w:World}{t sb:Nat}{lv:Value}{most sh:Nat}{sl:List Int}{l:List (Int×Int)}
theorem tz{P:Program}(w:World)(dT sT ty elem:TypeId)(g dLen dCap:Nat)(a:Addr)(sLen sCap:Nat)(cur:Array Value)(t:TypeId)(cs:List Value)
  (hu:P.underlying dT=some (.slice elem)) (hs:(P.info? elem).map (·.size)=some 2)
  (hg:w.heap[g]?=some (.cells cur t (0,0))) (hn:cs.length=Nat.min sLen dLen*2)
  (hsrc:∀ j v,cs[j]?=some v->w.cell? (a.add j)=some v) (hfit:cs.length<=cur.size) (h1:∀ v∈cs,v.oneCell'=true) :
  (Builtin.copy_ #[dT,sT] ty #[.slice (some ⟨g,0,none⟩) dLen dCap,.slice (some a) sLen sCap]).run P w =
   .ok (goInt (Nat.min sLen dLen)) (w.setRow g (cur.toList.take 0++cs++cur.toList.drop (0+cs.length)).toArray):=by
 have hl:=run_loadCells_list (P:=P) w a cs hsrc
 have hst:=run_storeCells_at P g 0 t cs 0 cur w hg (by simpa using hfit) h1
 cases hq:P.info? elem with
 | none=>simp[hq]at hs
 | some i =>
  have hi:i.size=2:=by simpa[hq]using hs
  rw[hn]at hl
  simp[Builtin.copy_,run_underlying hu,Builtin.lenOf,Builtin.firstCells,sizeOf,typeInfo,hq,hi,hl,hst]
theorem rK{P:Program}(w:World)(dT sT ty elem:TypeId)(g dCap sCap:Nat)(a:Option Addr)
  (hu:P.underlying dT=some (.slice elem)) (hs:(P.info? elem).map (·.size)=some 2) :
  (Builtin.copy_ #[dT,sT] ty #[.slice (some ⟨g,0,none⟩) 0 dCap,.slice a 0 sCap]).run P w=.ok (goInt 0) w:=by
 cases hq:P.info? elem with
 | none=>simp[hq]at hs
 | some i =>
  have hi:i.size=2:=by simpa[hq]using hs
  cases a<;>simp[Builtin.copy_,run_underlying hu,Builtin.lenOf,Builtin.firstCells,sizeOf,typeInfo,hq,hi,loadCells,loadCellsFrom,storeCells]
theorem copy_wr{W:World}{g:Nat}{cur:Array Value}(h:ah w0 X (ag g (.cells cur 218 (0,0))::gy lv l::Cs) W)(hc:cur.size=l.length*2)(hl:l.length<=maxLen) :
  ∃ W',(Builtin.copy_ #[165,165] 3 #[.slice (some ⟨g,0,none⟩) l.length l.length,lv]).run Tryz.prog W=.ok (goInt l.length) W' /\
   ah w0 X (gy (.slice (some ⟨g,0,none⟩) l.length l.length) l::gy lv l::Cs) W':=by
 have hr:aD W 218 2 lv l.length (cL l):=h.h1
 have fin:∀ (cur':Array Value) (W':World),cur'.size=l.length*2->cur'.toList=cL l->ah w0 X (ag g (.cells cur' 218 (0,0))::gy lv l::Cs) W' ->
   ah w0 X (gy (.slice (some ⟨g,0,none⟩) l.length l.length) l::gy lv l::Cs) W':=fun cur' W' h1 h2 hS=>by
  have hb:W'.heap[g]?=some (.cells cur' 218 (0,0)):=hS.h0
  refine hS.call1 (C3:=[gy (.slice (some ⟨g,0,none⟩) l.length l.length) l]) ⟨aQ.refl _ _,fun c hc=>?_,by simp[cu,gy,aN,bR],fun x hx=>?_⟩
  ·rw[List.mem_singleton.1 hc]
   refine⟨by rw[et],.inr ⟨g,l.length,cur',rfl,Nat.zero_le _,hb,Nat.le_refl _,hl,h1,?_⟩⟩
   rw[<-h2]
   exact List.take_of_length_le (by simp[h1])
  ·simp[cu,gy,aN,bR]at hx
   exact .inl (by simp[ag,hx])
 by_cases hn:l.length=0
 ·obtain⟨_,a,c,rfl⟩:=aD.nil0 (hn▸hr)
  have hl0:l=[]:=List.eq_nil_of_length_eq_zero hn
  refine⟨W,by rw[hn];exact rK W _ _ _ 218 g 0 c a Tryz.underlying165 (by kernel_rfl),fin cur W hc ?_ h⟩
  rw[hl0]at hc ⊢
  exact List.eq_nil_of_length_eq_zero (by simpa using hc)
 ·obtain⟨gs,cap,rfl,h1,h2,h3,h4,h5,h6⟩:=hr.read (by omega)
  have hb:W.heap[g]?=some (.cells cur 218 (0,0)):=h.h0
  have hrun:=tz (P:=Tryz.prog) W 165 165 3 218 g l.length l.length ⟨gs,0,none⟩ l.length cap cur _ (cL l) Tryz.underlying165 (by kernel_rfl) hb
   (by rw[et];simp) (fun j v hj=>hr.cells (g:=gs) rfl j v hj) (by rw[et,hc];exact Nat.le_refl _) (fun v hv=>by
    unfold cL at hv
    obtain⟨y,_,hy⟩:=List.mem_flatMap.1 hv
    simp at hy
    rcases hy with rfl|rfl<;>rfl)
  rw[show Nat.min l.length l.length=l.length from Nat.min_self _]at hrun
  refine⟨_,hrun,fin _ _ ?_ ?_ (h.chg (o':=.cells _ _ (0,0)) ?_ (setRow_heap W g cur _ _ _ hb))⟩
  ·simp[et,hc]
  ·have hz:cur.toList.drop (l.length*2)=[]:=by rw[List.drop_eq_nil_iff];simp[hc]
   simp[et,hz]
  ·exact⟨rfl,rfl,rfl,by simp,fun k _ hk=>setRow_other W g k _ (fun e=>hk (by simp[e]))⟩
theorem infoWr3:(Tryz.prog.info? 218).map (fun i=>(i.zero,i.size,i.bytes))=some (some (.agg #[.int .i64 0,.int .i64 0]),2,16):=by kernel_rfl
theorem mk_wr(n:Nat)(hn:n<=1000)(w:World):(Instr.makeSlice 165 (.int .i64 n) (.int .i64 n)).run Tryz.prog w=.ok (.slice (some ⟨w.heap.size,0,none⟩) n n) (w.alloc (.cells (madeCells #[.int .i64 0,.int .i64 0] (n*2)) 218)):=by
 obtain⟨i0,hi,hz0,hz1,hz2⟩:=info_parts infoWr3
 have h:=run_make (P:=Tryz.prog) (w:=w) 165 218 i0 _ Tryz.underlying165 hi hz0 .i64 .i64 n n (by omega) (by omega) (by rw[hz2];omega) (by omega)
 rw[hz1,Int.toNat_natCast]at h
 exact h
theorem D2(hS:ah w0 X (ei t sb most lv sh sl l Cs) w)(hl:l.length<=24) :
  Calls Tryz.prog 112 #[ptr t] w (fun e w'=>∃ g,e=.returned (.slice (some ⟨g,0,none⟩) l.length l.length)/\ah w0 X (gy (.slice (some ⟨g,0,none⟩) l.length l.length) l::ei t sb most lv sh sl l Cs) w'):=by
 unfold ei at hS ⊢
 have c2:=hS.cell 2
 simp only[gA,gZ,gS]at c2
 have hr:aD w 218 2 lv l.length (cL l):=hS.h2
 obtain⟨a,c,hlv,_,hc2⟩:=hr.slice
 have S1:=(hS.new (.cells (madeCells #[.int .i64 0,.int .i64 0] (l.length*2)) 218 (0,0))).s23
 have S2:=(S1.f3).sw
 obtain⟨W',hrun,hfin⟩:=copy_wr S2 (by rw[size_madeCells]) (by have h24:(24:Nat)<=maxLen:=(by decide);omega)
 have hmk:=mk_wr l.length (by omega) w
 have HFIN:=kH hfin
 have hlt:=af hS.h0
 clear S1 S2 hfin hr hS
 subst hlv
 generalize l.length=n at *
 unfold ptr
 go_enter Tryz.func112,Tryz.ntmps112
 go_wp2
 go_ret
 exact⟨_,rfl,(HFIN.out).s23.f3.sw⟩
end
section
variable {w0:World}{X:List Nat}{Cs:List aw}{w:World}{l:List (Int×Int)}
structure dX where
 g:Nat
 t:Nat
 sb:Nat
 most:Nat
 lv:Value
 sl:List Int
def dX.sh(q:dX):Nat:=64-ft q.most
def dX.R(q:dX)(l:List (Int×Int)):Prop:=rV q.most q.sh q.sl l
def mg(t:Nat)(s:List Int):Array Value:=#[ptr t,.int .u64 0,.int .u64 0,.int .u64 0,.int .u64 0,.int .u64 0,.int .u64 0,.int .u64 0,.int .u64 0,.int .u64 (s.getD 0 0),.int .u64 (s.getD 1 0),.int .u64 (s.getD 2 0),.int .u64 (s.getD 3 0),.int .u64 (s.getD 4 0),.int .u64 (s.getD 5 0),.int .u64 (s.getD 6 0),.int .u64 (s.getD 7 0)]
def tO(t:Nat)(s:List Int):Obj:=.cells (mg t s) 202 (0,0)
def eT(q:dX)(s:List Int)(l:List (Int×Int))(Cs:List aw):List aw:=ag q.g (tO q.t s)::ei q.t q.sb q.most q.lv q.sh q.sl l Cs
variable {q:dX}{s:List Int}
theorem ah.tab(h:ah w0 X (eT q s l Cs) w):ah w0 X (ei q.t q.sb q.most q.lv q.sh q.sl l (ag q.g (tO q.t s)::Cs)) w:=by
 unfold eT ei at *
 exact h.perm ((List.Perm.swap _ _ _).trans (((List.Perm.swap _ _ _).cons _).trans (((List.Perm.swap _ _ _).cons _).cons _)))
theorem ah.untab{t sb most sh:Nat}{lv:Value}{sl:List Int}{b:aw}(h:ah w0 X (ei t sb most lv sh sl l (b::Cs)) w):ah w0 X (b::ei t sb most lv sh sl l Cs) w:=by
 unfold ei at *
 exact h.perm ((((List.Perm.swap _ _ _).cons _).cons _).trans (((List.Perm.swap _ _ _).cons _).trans (List.Perm.swap _ _ _)))
theorem New_log(hS:ah w0 X Cs w)(m:Nat)(hm:1<=m/\m<=24) :
  Calls Tryz.prog 82 #[.int .i64 m] w (fun e w'=>∃ q,e=.returned (.tuple #[ptr q.g,.int .i64 0])/\q.most=m/\dX.R q []/\ah w0 X (eT q bQ [] Cs) w'):=by
 have HN:=kH (New_tab hS m hm)
 clear hS
 go_enter Tryz.func82,Tryz.ntmps82
 go_wp2_with fail
 refine HN.out.mono ?_
 rintro e w1 ⟨t,sb,sl,rfl,hR,S1⟩
 have HS1:=kH S1
 have HR:=kH hR
 clear S1 hR
 unfold ptr
 go_wp2
 go_ret2
 exact⟨⟨w1.heap.size,t,sb,m,.slice none 0 0,sl⟩,rfl,rfl,HR.out,HS1.out.new (tO t bQ)⟩
theorem zU(hS:ah w0 X (eT q s l Cs) w)(hr:q.R l)(hd:(l.map (·.1)).Nodup)(c:Int)(hc:0<=c/\c<=1024) :
  Calls Tryz.prog 86 #[ptr q.g,.int .i64 c] w (fun e w'=>e=.returned (C7 (eR l c))/\ah w0 X (eT q s l Cs) w'):=by
 have k0:=hS.cell 0
 simp only[mg,gA,gZ,gS]at k0
 have HG:=kH (Get_tab hS.tab hr hd c hc)
 clear hS hr hd hc
 generalize eR l c=o at *
 unfold ptr at *
 cases o
 all_goals
  go_enter Tryz.func86,Tryz.ntmps86
  go_wp2_with fail
  refine HG.out.mono ?_
  rintro e w1 ⟨rfl,S1⟩
  have HS1:=kH S1
  clear S1 k0
  unfold C7
  go_wp2
  go_ret2
  exact⟨rfl,HS1.out.untab⟩
theorem my(hS:ah w0 X (eT q s l Cs) w)(hl:l.length<=24) :
  Calls Tryz.prog 90 #[ptr q.g] w (fun e w'=>∃ g,e=.returned (.slice (some ⟨g,0,none⟩) l.length l.length)/\ah w0 X (gy (.slice (some ⟨g,0,none⟩) l.length l.length) l::eT q s l Cs) w'):=by
 have k0:=hS.cell 0
 simp only[mg,gA,gZ,gS]at k0
 have HG:=kH (D2 hS.tab hl)
 clear hS hl
 generalize hn:l.length=n at *
 clear hn
 unfold ptr at *
 go_enter Tryz.func90,Tryz.ntmps90
 go_wp2_with fail
 refine HG.out.mono ?_
 rintro e w1 ⟨g,rfl,S1⟩
 have HS1:=kH S1
 clear S1 k0
 go_wp2
 go_ret
 refine⟨g,rfl,?_⟩
 have h:=HS1.out
 unfold eT ei at *
 exact h.perm ((((List.Perm.swap _ _ _).cons _).cons _ |>.cons _).trans ((((List.Perm.swap _ _ _).cons _).cons _).trans ((List.Perm.swap _ _ _).cons _)))
theorem Sig_log(hS:ah w0 X (eT q s l Cs) w)(hs:s.length=8) :
  Calls Tryz.prog 96 #[ptr q.g] w (fun e w'=>e=.returned (dR s)/\ah w0 X (eT q s l Cs) w'):=by
 have hk:=fun j=>hS.cell j
 obtain⟨a0,a1,a2,a3,a4,a5,a6,a7,ha,hva⟩:=pB hs
 rw[hva]
 simp only[mg,ha]at hk
 have k3:=hk 9
 have k4:=hk 10
 have k5:=hk 11
 have k6:=hk 12
 have k7:=hk 13
 have k8:=hk 14
 have k9:=hk 15
 have k10:=hk 16
 simp only[gA,gZ,gS,List.getD_cons_zero,List.getD_cons_succ]at k3 k4 k5 k6 k7 k8 k9 k10
 have HS:=kH hS
 have hlt:=af hS.h0
 clear hS hk ha hva hs
 unfold ptr at *
 go_enter Tryz.func96,Tryz.ntmps96
 go_wp2
 refine bodyPost_ret (results_cell_row rfl _ _ _ _ _ _ _ rfl (ar (w:=w) (o:=.cells #[.int .u64 a0,.int .u64 a1,.int .u64 a2,.int .u64 a3,.int .u64 a4,.int .u64 a5,.int .u64 a6,.int .u64 a7] 42 (0,0)) rfl) Tryz.underlying42 rfl fN) rfl ⟨rfl,?_⟩
 exact HS.out.alloc _
theorem ah.logSet(h:ah w0 X (eT q s l Cs) w)(b0 b1 b2 b3 b4 b5 b6 b7:Int):ah w0 X (eT q [b0,b1,b2,b3,b4,b5,b6,b7] l Cs)
  ((((((((w.setCell ⟨q.g,9,none⟩ (.int .u64 b0)).setCell ⟨q.g,10,none⟩ (.int .u64 b1)).setCell ⟨q.g,11,none⟩ (.int .u64 b2)).setCell ⟨q.g,12,none⟩ (.int .u64 b3)).setCell ⟨q.g,13,none⟩ (.int .u64 b4)).setCell ⟨q.g,14,none⟩ (.int .u64 b5)).setCell ⟨q.g,15,none⟩ (.int .u64 b6)).setCell ⟨q.g,16,none⟩ (.int .u64 b7)):=by
 have h8:=(((((((h.set 9 (.int .u64 b0)).set 10 (.int .u64 b1)).set 11 (.int .u64 b2)).set 12 (.int .u64 b3)).set 13 (.int .u64 b4)).set 14 (.int .u64 b5)).set 15 (.int .u64 b6)).set 16 (.int .u64 b7)
 have e:((((((((mg q.t s).setIfInBounds 9 (.int .u64 b0)).setIfInBounds 10 (.int .u64 b1)).setIfInBounds 11 (.int .u64 b2)).setIfInBounds 12 (.int .u64 b3)).setIfInBounds 13 (.int .u64 b4)).setIfInBounds 14 (.int .u64 b5)).setIfInBounds 15 (.int .u64 b6)).setIfInBounds 16 (.int .u64 b7)=mg q.t [b0,b1,b2,b3,b4,b5,b6,b7]:=by
  simp[mg]
 rw[e]at h8
 exact h8
def Bw(w0:World)(X:List Nat)(Cs:List aw)(q:dX)(s:List Int)(l:List (Int×Int))(c v:Int)(e:Ending)(w':World):Prop :=
 (e=.returned (.int .i64 0)/\¬((eR l c).isNone=true/\l.length=q.most)/\∃ q',q'.g=q.g/\q'.most=q.most/\dX.R q' (fT l c v)/\ah w0 X (eT q' (be s c) (fT l c v) Cs) w') \/
 (e=.returned (.int .i64 5)/\((eR l c).isNone=true/\l.length=q.most)/\∃ q',q'.g=q.g/\q'.most=q.most/\dX.R q' l/\ah w0 X (eT q' s l Cs) w')
theorem Bv(hS:ah w0 X (eT q s l Cs) w)(hr:q.R l)(hd:(l.map (·.1)).Nodup)(hs:aU s)(c v:Int)(hc:0<=c/\c<1024)(hv:aI v) :
  Calls Tryz.prog 89 #[ptr q.g,.int .i64 c,.int .i64 v] w (Bw w0 X Cs q s l c v):=by
 have k0:=hS.cell 0
 simp only[mg,gA,gZ,gS]at k0
 have HP:=kH (Put_tab hS.tab hr hd c v hc hv)
 have HW:=kH (mz s c hs)
 obtain⟨r0,r1,r2,r3,r4,r5,r6,r7,hq,hv⟩:=pB hs.1
 have hall:=cF hs c
 obtain⟨a0,a1,a2,a3,a4,a5,a6,a7,ha,hva⟩:=pB hall.1
 rw[hv,hva]at HW
 have HA:=kH ha
 have HQ:=kH hq
 clear hS hr hd hs hc hq hv ha hva hall
 unfold ptr at *
 go_enter Tryz.func89,Tryz.ntmps89
 go_wp2_with fail
 refine HP.out.mono ?_
 rintro e w1 (⟨rfl,hne,lv,sl,hR,S1⟩|⟨rfl,hfull,lv,sl,hR,S1⟩)
 ·have S2:ah w0 X (eT ⟨q.g,q.t,q.sb,q.most,lv,sl⟩ s (fT l c v) Cs) w1:=S1.untab
  have hk:=fun j=>S2.cell j
  simp only[mg,HQ.out]at hk
  have k3:=hk 9
  have k4:=hk 10
  have k5:=hk 11
  have k6:=hk 12
  have k7:=hk 13
  have k8:=hk 14
  have k9:=hk 15
  have k10:=hk 16
  simp only[gA,gZ,gS,List.getD_cons_zero,List.getD_cons_succ]at k3 k4 k5 k6 k7 k8 k9 k10
  have HS2:=kH S2
  have HR:=kH hR
  have HNE:=kH hne
  clear S1 S2 hk k0 hR hne
  go_wp2_with fail
  refine(HW.out _).mono ?_
  rintro e w2 ⟨rfl,hb⟩
  have HS3:=kH (HS2.out.below hb)
  have f9:=HS3.out.froz 9
  have f10:=HS3.out.froz 10
  have f11:=HS3.out.froz 11
  have f12:=HS3.out.froz 12
  have f13:=HS3.out.froz 13
  have f14:=HS3.out.froz 14
  have f15:=HS3.out.froz 15
  have f16:=HS3.out.froz 16
  have hk:=fun j=>HS3.out.cell j
  simp only[mg,HQ.out]at hk
  have m3:=hk 9
  have m4:=hk 10
  have m5:=hk 11
  have m6:=hk 12
  have m7:=hk 13
  have m8:=hk 14
  have m9:=hk 15
  have m10:=hk 16
  simp only[gA,gZ,gS,List.getD_cons_zero,List.getD_cons_succ]at m3 m4 m5 m6 m7 m8 m9 m10
  clear hb hk k3 k4 k5 k6 k7 k8 k9 k10
  go_wp2
  go_ret
  refine .inl ⟨rfl,HNE.out,⟨q.g,q.t,q.sb,q.most,lv,sl⟩,rfl,rfl,HR.out,?_⟩
  rw[HA.out]
  exact HS3.out.logSet a0 a1 a2 a3 a4 a5 a6 a7
 ·have S2:ah w0 X (eT ⟨q.g,q.t,q.sb,q.most,lv,sl⟩ s l Cs) w1:=S1.untab
  have HS2:=kH S2
  have HR:=kH hR
  have HF:=kH hfull
  clear S1 S2 k0 hR hfull
  go_wp2
  go_ret
  exact .inr ⟨rfl,HF.out,⟨q.g,q.t,q.sb,q.most,lv,sl⟩,rfl,rfl,HR.out,HS2.out⟩
end
section
variable {w0:World}{X:List Nat}{Cs:List aw}{w:World}{l:List (Int×Int)}{q:dX}{s:List Int}
theorem ah.logClr(h:ah w0 X (eT q s l Cs) w):ah w0 X (eT q bQ l Cs)
  ((((((((((((((((w.setCell ⟨q.g,1,none⟩ (.int .u64 0)).setCell ⟨q.g,2,none⟩ (.int .u64 0)).setCell ⟨q.g,3,none⟩ (.int .u64 0)).setCell ⟨q.g,4,none⟩ (.int .u64 0)).setCell ⟨q.g,5,none⟩ (.int .u64 0)).setCell ⟨q.g,6,none⟩ (.int .u64 0)).setCell ⟨q.g,7,none⟩ (.int .u64 0)).setCell ⟨q.g,8,none⟩ (.int .u64 0)).setCell ⟨q.g,9,none⟩ (.int .u64 0)).setCell ⟨q.g,10,none⟩ (.int .u64 0)).setCell ⟨q.g,11,none⟩ (.int .u64 0)).setCell ⟨q.g,12,none⟩ (.int .u64 0)).setCell ⟨q.g,13,none⟩ (.int .u64 0)).setCell ⟨q.g,14,none⟩ (.int .u64 0)).setCell ⟨q.g,15,none⟩ (.int .u64 0)).setCell ⟨q.g,16,none⟩ (.int .u64 0)):=by
 have h8:=(((((((((((((((h.set 1 (.int .u64 0)).set 2 (.int .u64 0)).set 3 (.int .u64 0)).set 4 (.int .u64 0)).set 5 (.int .u64 0)).set 6 (.int .u64 0)).set 7 (.int .u64 0)).set 8 (.int .u64 0)).set 9 (.int .u64 0)).set 10 (.int .u64 0)).set 11 (.int .u64 0)).set 12 (.int .u64 0)).set 13 (.int .u64 0)).set 14 (.int .u64 0)).set 15 (.int .u64 0)).set 16 (.int .u64 0)
 have e:((((((((((((((((mg q.t s).setIfInBounds 1 (.int .u64 0)).setIfInBounds 2 (.int .u64 0)).setIfInBounds 3 (.int .u64 0)).setIfInBounds 4 (.int .u64 0)).setIfInBounds 5 (.int .u64 0)).setIfInBounds 6 (.int .u64 0)).setIfInBounds 7 (.int .u64 0)).setIfInBounds 8 (.int .u64 0)).setIfInBounds 9 (.int .u64 0)).setIfInBounds 10 (.int .u64 0)).setIfInBounds 11 (.int .u64 0)).setIfInBounds 12 (.int .u64 0)).setIfInBounds 13 (.int .u64 0)).setIfInBounds 14 (.int .u64 0)).setIfInBounds 15 (.int .u64 0)).setIfInBounds 16 (.int .u64 0)=mg q.t bQ:=by
  simp[mg,bQ]
 rw[e]at h8
 exact h8
theorem BS(hS:ah w0 X (eT q s l Cs) w)(hr:q.R l) :
  Calls Tryz.prog 117 #[ptr q.g] w (fun e w'=>e=.returned (.tuple #[])/\∃ q',q'.g=q.g/\q'.most=q.most/\dX.R q' []/\ah w0 X (eT q' bQ [] Cs) w'):=by
 have k0:=hS.cell 0
 simp only[mg,gA,gZ]at k0
 have hz:=hr.sizes
 have HC:=kH (s9 hS.tab (by have:=hz.2.2.2.1;exact this))
 have hR:dX.R ⟨q.g,q.t,q.sb,q.most,.slice none 0 0,List.replicate q.sl.length (-1)⟩ [] :=
  ⟨sf _ _ (by have:=hz.2.2.1;omega),rfl,by rw[List.length_replicate];exact hr.lens,hr.mosts,Nat.zero_le _,fun y hy=>nomatch hy⟩
 have HR:=kH hR
 clear hS hr hz hR
 unfold ptr at *
 go_enter Tryz.func117,Tryz.ntmps117
 go_wp2_with fail
 refine HC.out.mono ?_
 rintro e w1 ⟨rfl,S1⟩
 have S2:ah w0 X (eT ⟨q.g,q.t,q.sb,q.most,.slice none 0 0,List.replicate q.sl.length (-1)⟩ s [] Cs) w1:=S1.untab
 have HS:=kH S2
 have k:=fun j=>S2.cell j
 simp only[mg]at k
 have k1:=k 1
 have k2:=k 2
 have k3:=k 3
 have k4:=k 4
 have k5:=k 5
 have k6:=k 6
 have k7:=k 7
 have k8:=k 8
 have k9:=k 9
 have k10:=k 10
 have k11:=k 11
 have k12:=k 12
 have k13:=k 13
 have k14:=k 14
 have k15:=k 15
 have k16:=k 16
 simp only[gA,gZ,gS]at k1 k2 k3 k4 k5 k6 k7 k8 k9 k10 k11 k12 k13 k14 k15 k16
 have f1:=S2.froz 1
 have f2:=S2.froz 2
 have f3:=S2.froz 3
 have f4:=S2.froz 4
 have f5:=S2.froz 5
 have f6:=S2.froz 6
 have f7:=S2.froz 7
 have f8:=S2.froz 8
 have f9:=S2.froz 9
 have f10:=S2.froz 10
 have f11:=S2.froz 11
 have f12:=S2.froz 12
 have f13:=S2.froz 13
 have f14:=S2.froz 14
 have f15:=S2.froz 15
 have f16:=S2.froz 16
 generalize hv9:(Value.int .u64 (s.getD 0 0))=v9 at k9
 generalize hv10:(Value.int .u64 (s.getD 1 0))=v10 at k10
 generalize hv11:(Value.int .u64 (s.getD 2 0))=v11 at k11
 generalize hv12:(Value.int .u64 (s.getD 3 0))=v12 at k12
 generalize hv13:(Value.int .u64 (s.getD 4 0))=v13 at k13
 generalize hv14:(Value.int .u64 (s.getD 5 0))=v14 at k14
 generalize hv15:(Value.int .u64 (s.getD 6 0))=v15 at k15
 generalize hv16:(Value.int .u64 (s.getD 7 0))=v16 at k16
 clear S1 S2 k k0 hv9 hv10 hv11 hv12 hv13 hv14 hv15 hv16
 go_wp2
 go_end0
 exact⟨rfl,⟨q.g,q.t,q.sb,q.most,.slice none 0 0,List.replicate q.sl.length (-1)⟩,rfl,rfl,HR.out,HS.out.logClr⟩
def uh(b:nT):Obj:=.cells (yI b) 204 (0,0)
theorem New_beg(hS:ah w0 X Cs w)(size:Int)(h0:1<=size/\size<=16) :
  Calls Tryz.prog 84 #[.int .i64 size] w (fun e w'=>∃ x,e=.returned (.tuple #[ptr x,.int .i64 0])/\ah w0 X (ag x (uh ⟨size,0,0,0⟩)::Cs) w'):=by
 have HS:=kH hS
 obtain⟨h1,h2⟩:=h0
 clear hS
 go_enter Tryz.func84,Tryz.ntmps84
 go_wp2
 go_ret2
 exact⟨w.heap.size,rfl,HS.out.new _⟩
variable {x:Nat}{b:nT}
theorem BJ(hS:ah w0 X (ag x (uh b)::Cs) w)(h2:b.state=2) :
  Calls Tryz.prog 93 #[ptr x] w (fun e w'=>e=.returned (.tuple #[.int .i64 b.at_,.int .i64 b.seen,.bool true])/\ah w0 X (ag x (uh b)::Cs) w'):=by
 have k1:=hS.cell 1
 have k2:=hS.cell 2
 have k3:=hS.cell 3
 simp only[yI,gA,gZ,gS,h2]at k1 k2 k3
 have HS:=kH hS
 clear hS h2
 unfold ptr at *
 go_enter Tryz.func93,Tryz.ntmps93
 go_wp2_with fail
 go_quiet(fail)
 go_wp2
 go_ret3
 exact⟨rfl,HS.out.drewN _⟩
end
end Go.Proofs.YtgfogfciobmmpaaGreatDoor
