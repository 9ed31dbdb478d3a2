/- A part of the proof of the law TopTells: CodCAt. -/
import Derived.Test.YtgfogfciobmmpaaGreatDoorPBh
import Derived.Deep.LoopGhost
import Derived.Deep.RegionWith
import Derived.BigRegion
import Derived.WalkSpells
set_option linter.unusedSimpArgs false
set_option linter.unusedVariables false
set_option maxRecDepth 100000
set_option maxHeartbeats 8000000
namespace Go.Proofs.YtgfogfciobmmpaaGreatDoor
namespace Cod
open Go.RowKit
def Tabled (w:World):Prop:=0 < w.heap.size∧∀ i,i < 41→w.cell? ⟨0,i,none⟩=some (.int .u8 (shapeN i:Int))
theorem Tabled.below {w w':World} {B:Nat} (h:Tabled w) (hB:0 < B) (hb:Below B w w'):Tabled w' :=
 ⟨Nat.lt_of_lt_of_le h.1 hb.size,fun i hi=>(hb.cell (p:=⟨0,i,none⟩) hB).trans (h.2 i hi)⟩
def Spot4.val (x:Spot4):Value:=.tuple #[.agg #[.int .i64 x.code,.int .i64 x.operand],.int .i64 x.n,.int .i64 x.err]
theorem byte_at (s:ByteArray) (i:Nat) (h:i < s.size):byteN s.data.toList i=(s[i]'h).toNat:=by
 unfold byteN
 rw [List.getD_eq_getElem?_getD,List.getElem?_eq_getElem (by simpa using h)]
 rfl
theorem ext_byte (s:ByteArray) (a i:Nat) (h:i < (s.extract a s.size).size):((s.extract a s.size)[i]'h).toNat=byteN s.data.toList (a+i):=by
 rw [ByteArray.size_extract] at h
 rw [byte_at s (a+i) (by omega)]
 congr 1
 exact ByteArray.getElem_extract ..
theorem results_op {P:Program} {fn:Func} {p u v:Tmp} {ty:TypeId} (h:fn.results=#[.cell p ty,.tmp u,.tmp v]) (tmps:Array Value) (w:World) (g:Nat) (t:TypeId) (cs:Array Value) (fr:Nat×Nat) (d:TypeDesc)
   (hp:tmps.getD p undef=.pointer (some ⟨g,0,none⟩)) (hg:w.heap[g]?=some (.cells cs t fr))
   (hu:P.underlying ty=some d) (hd:(match d with | .struct _ | .array _ _=>true | _=>false)=true) (hi:(P.info? ty).map (·.size)=some cs.size) :
   (results fn tmps).run P w=.ok (.tuple #[.agg cs,tmps.getD u undef,tmps.getD v undef]) w:=by
 have e:(results fn tmps).run P w=((asAddr (tmps.getD p undef)).run P w).andThen fun a w₁=>((loadVar ty a).run P w₁).andThen fun x w₂=>.ok (.tuple #[x,tmps.getD u undef,tmps.getD v undef]) w₂:=by
   simp only [results,h]
   simp [Sem.run_bind,Result.andThen]
 rw [e,hp]
 simp [asAddr,run_loadVar_row w g t ty cs fr d hg hu hd hi,Result.andThen]
theorem infoOp:(Tryz.prog.info? 135).map (·.size)=some 2:=by kernel_rfl
theorem At_calls (w:World) (s:ByteArray) (a:Nat) (hs:s.size≤281474976710656) (ht:Tabled w) (ha:a < s.size) (hc:byteN s.data.toList a < 41) (hw:a+1+widthN (shapeN (byteN s.data.toList a))≤s.size) :
   Calls Tryz.prog 63 #[.string s,.int .i64 (a:Int)] w (Gives (atS s.data.toList a).val w):=by
 have hb:=byte_at s a ha
 rw [hb] at hc hw
 have hatS:atS s.data.toList (a:Int)=if fitsB (shapeN (s[a]'ha).toNat) (valueI (shapeN (s[a]'ha).toNat) (leF s.data.toList (a+1) (widthN (shapeN (s[a]'ha).toNat))))=true then
     ⟨(s[a]'ha).toNat,valueI (shapeN (s[a]'ha).toNat) (leF s.data.toList (a+1) (widthN (shapeN (s[a]'ha).toNat))),1+widthN (shapeN (s[a]'ha).toNat),0⟩ else noSpot:=by
   have hl:s.data.toList.length=s.size:=by simp
   unfold atS
   rw [if_neg (by omega),Int.toNat_natCast,hb,if_neg (by omega),if_neg (by omega)]
 have HAT:=kH hatS
 have hcell:=ht.2 _ hc
 have h0:=ht.1
 have hsh:=shape_le (s[a]'ha).toNat
 have hwl:=width_le (shapeN (s[a]'ha).toNat)
 have HW:=kH (fun w=>width_calls _ hsh w)
 have ha':(a:Int) < (s.size:Int):=by omega
 have hd1:decide (s.size - (a+1) < widthN (shapeN (s[a]'ha).toNat))=false:=by simp;omega
 have hd2:decide ((41:Int)≤((s[a]'ha).toNat:Int))=false:=by simp;omega
 clear hb hatS
 go_enter Tryz.func63,Tryz.ntmps63
 go_wp2_with (go_at_call 97;refine (HW.out _).mono ?_;rintro e w' ⟨rfl,rfl⟩)
 generalize hWd:widthN (shapeN (s[a]'ha).toNat)=W at *
 have HWD:=kH hWd
 clear hWd
 go_loop [10,45] (fun vn vk=>∃ k:Nat,k≤W∧vk=.int .i64 k∧vn=.int .u64 (leF s.data.toList (a+1) k:Nat)) (fun _ vk=>W - (intOf vk).toNat)
 case atStart=>exact ⟨0,Nat.zero_le _,rfl,rfl⟩
 case round =>
   obtain ⟨k,hk,rfl,rfl⟩:=hrel
   have HLT:=kH (leF_lt s.data.toList k (a+1))
   by_cases hlt:k < W
   · have hkl:(k:Int) < (W:Int):=by omega
     have HSN:=kH (leF_snoc s.data.toList k (a+1))
     go_wp2
     go_round
     case rel =>
       refine ⟨k+1,by omega,by go_num,?_⟩
       congr 1
       rw [or_step _ _ k HLT.out (UInt8.toNat_lt _) (by omega),ext_byte,HSN.out]
     case measure=>simp [intOf];omega
   · have hkW:k=W:=by omega
     subst hkW
     have hle8:=leF_lt8 s.data.toList k (a+1) hwl
     have HV:=kH (fun w=>value_calls _ hsh _ hle8 w)
     have HVR:=value_range (shapeN (s[a]'ha).toNat) (leF s.data.toList (a+1) k)
     have HF:=kH (fun w=>fits_calls _ hsh _ HVR.1 HVR.2 w)
     have HLE:=kH hle8
     clear hle8 HVR
     have HAT2:=HAT.out
     generalize leF s.data.toList (a+1) k=n at *
     generalize hVV:valueI (shapeN (s[a]'ha).toNat) n=V at *
     have HVV:=kH hVV
     clear hVV
     by_cases hfit:fitsB (shapeN (s[a]'ha).toNat) V=true
     · rw [if_pos hfit] at HAT2
       have HAT3:=kH HAT2
       clear HAT2
       go_wp2
       go_region_with ((first | (go_at_call 98;refine (HV.out _).mono ?_;rintro e w' ⟨rfl,rfl⟩)))
       all_goals
         go_wp2_with (go_at_call 99;refine (HF.out _).mono ?_;rintro e w' ⟨rfl,rfl⟩)
         rw [HAT3.out]
         refine bodyPost_ret (v:=.tuple #[.agg #[.int .i64 ((s[a]'ha).toNat:Int),.int .i64 V],.int .i64 (1+(k:Int)),.int .i64 0]) (results_op (p:=4) (u:=5) (v:=6) rfl _ _ w.heap.size 135 #[.int .i64 ((s[a]'ha).toNat:Int),.int .i64 V] (0,0) _ rfl ?_ Tryz.underlying135 rfl infoOp) rfl ⟨rfl,?_⟩
         · exact kO (heap_new rfl)
         · exact (below_alloc_of (below_alloc _ _) _).trans ⟨rfl,rfl,rfl,Nat.le_refl _,fun _ _=>rfl⟩
     · rw [if_neg hfit] at HAT2
       have HAT3:=kH HAT2
       have hfit':fitsB (shapeN (s[a]'ha).toNat) V=false:=by simpa using hfit
       clear HAT2 hfit
       go_wp2
       go_region_with ((first | (go_at_call 98;refine (HV.out _).mono ?_;rintro e w' ⟨rfl,rfl⟩)))
       all_goals
         go_wp2_with (go_at_call 99;refine (HF.out _).mono ?_;rintro e w' ⟨rfl,rfl⟩)
         rw [HAT3.out]
         refine bodyPost_ret (v:=.tuple #[.agg #[.int .i64 0,.int .i64 0],.int .i64 0,.int .i64 10]) (results_op (p:=4) (u:=5) (v:=6) rfl _ _ w.heap.size 135 #[.int .i64 0,.int .i64 0] (0,0) _ rfl ?_ Tryz.underlying135 rfl infoOp) rfl ⟨rfl,?_⟩
         · exact kO (heap_new rfl)
         · exact (below_alloc_of (below_alloc _ _) _).trans ⟨rfl,rfl,rfl,Nat.le_refl _,fun _ _=>rfl⟩
theorem At_short (w:World) (s:ByteArray) (a:Nat) (hs:s.size≤281474976710656) (ht:Tabled w) (ha:a < s.size) (hc:byteN s.data.toList a < 41) (hw:s.size < a+1+widthN (shapeN (byteN s.data.toList a))) :
   Calls Tryz.prog 63 #[.string s,.int .i64 (a:Int)] w (Gives noSpot.val w):=by
 have hb:=byte_at s a ha
 rw [hb] at hc hw
 have hcell:=ht.2 _ hc
 have h0:=ht.1
 have hsh:=shape_le (s[a]'ha).toNat
 have hwl:=width_le (shapeN (s[a]'ha).toNat)
 have HW:=kH (fun w=>width_calls _ hsh w)
 have ha':(a:Int) < (s.size:Int):=by omega
 have hd1:decide (s.size - (a+1) < widthN (shapeN (s[a]'ha).toNat))=true:=by simp;omega
 clear hb
 go_enter Tryz.func63,Tryz.ntmps63
 go_wp2_with (go_at_call 97;refine (HW.out _).mono ?_;rintro e w' ⟨rfl,rfl⟩)
 refine bodyPost_ret (results_op (p:=4) (u:=5) (v:=6) rfl _ _ _ _ _ _ _ rfl (heap_new rfl) Tryz.underlying135 rfl infoOp) rfl ⟨rfl,below_alloc _ _⟩
theorem At_out (w:World) (s:ByteArray) (a:Int) (_hs:s.size≤281474976710656) (ha:a < 0∨s.size≤a) :
   Calls Tryz.prog 63 #[.string s,.int .i64 a] w (Gives noSpot.val w):=by
 rcases (show a < 0∨(0≤a∧s.size≤a) from by omega) with h | ⟨h,h'⟩
 all_goals
   clear ha
   go_enter Tryz.func63,Tryz.ntmps63
   go_wp2
   refine bodyPost_ret (results_op (p:=4) (u:=5) (v:=6) rfl _ _ _ _ _ _ _ rfl (heap_new rfl) Tryz.underlying135 rfl infoOp) rfl ⟨rfl,below_alloc _ _⟩
theorem At_bad (w:World) (s:ByteArray) (a:Nat) (_hs:s.size≤281474976710656) (ha:a < s.size) (hc:41≤byteN s.data.toList a) :
   Calls Tryz.prog 63 #[.string s,.int .i64 (a:Int)] w (Gives noSpot.val w):=by
 have hb:=byte_at s a ha
 rw [hb] at hc
 have ha':(a:Int) < (s.size:Int):=by omega
 have hd2:decide ((41:Int)≤((s[a]'ha).toNat:Int))=true:=by simp;omega
 clear hb
 go_enter Tryz.func63,Tryz.ntmps63
 go_wp2
 refine bodyPost_ret (results_op (p:=4) (u:=5) (v:=6) rfl _ _ _ _ _ _ _ rfl (heap_new rfl) Tryz.underlying135 rfl infoOp) rfl ⟨rfl,below_alloc _ _⟩
theorem CodeAt_calls (w:World) (s:ByteArray) (a:Int) (hs:s.size≤281474976710656) (ht:Tabled w) :
   Calls Tryz.prog 63 #[.string s,.int .i64 a] w (Gives (atS s.data.toList a).val w):=by
 have hl:s.data.toList.length=s.size:=by simp
 by_cases h1:a < 0∨s.size≤a
 · have e:atS s.data.toList a=noSpot:=by unfold atS;rw [if_pos (by omega)]
   rw [e]
   exact At_out w s a hs h1
 · obtain ⟨a,rfl⟩:=Int.eq_ofNat_of_zero_le (show 0≤a by omega)
   by_cases h2:41≤byteN s.data.toList a
   · have e:atS s.data.toList a=noSpot:=by unfold atS;rw [if_neg (by omega),Int.toNat_natCast,if_pos h2]
     rw [e]
     exact At_bad w s a hs (by omega) h2
   · by_cases h3:s.size < a+1+widthN (shapeN (byteN s.data.toList a))
     · have e:atS s.data.toList a=noSpot:=by unfold atS;rw [if_neg (by omega),Int.toNat_natCast,if_neg h2,if_pos (by omega)]
       rw [e]
       exact At_short w s a hs ht (by omega) (by omega) h3
     · exact At_calls w s a hs ht (by omega) (by omega) (by omega)
end Cod
end Go.Proofs.YtgfogfciobmmpaaGreatDoor
