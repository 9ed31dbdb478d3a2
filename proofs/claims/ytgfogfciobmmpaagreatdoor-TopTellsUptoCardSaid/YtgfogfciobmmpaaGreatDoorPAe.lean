/- A part of the proof of the law TopTells: Leaf Sig Mem Acc. -/
import Derived.Test.YtgfogfciobmmpaaGreatDoorPAc
import Derived.Test.YtgfogfciobmmpaaGreatDoorPAd
import Derived.Test.YtgfogfciobmmpaaGreatDoorProg
import Derived.KernelRfl
import Derived.BigQuiet
import Derived.Deep.QuietTactic
import Derived.BigRegion
import Derived.Deep.RegionLaw
import Derived.Deep.AppendLies
import Derived.OwnWalk
set_option linter.unusedSimpArgs false
set_option linter.unusedVariables false
set_option maxRecDepth 100000
set_option maxHeartbeats 8000000
namespace Go.Proofs.YtgfogfciobmmpaaGreatDoor
section
open Go.RowKit
theorem mixG_eq (x s c d:Nat) (hx:x < 18446744073709551616) :
   bits .xor .u64 (IntKind.u64.wrap (bits .xor .u64 (IntKind.u64.wrap (bits .xor .u64 (x:Int) ((x:Int) / (s:Int)) * (c:Int))) (IntKind.u64.wrap (bits .xor .u64 (x:Int) ((x:Int) / (s:Int)) * (c:Int)) / (s:Int)) * (d:Int)))
     (IntKind.u64.wrap (bits .xor .u64 (IntKind.u64.wrap (bits .xor .u64 (x:Int) ((x:Int) / (s:Int)) * (c:Int))) (IntKind.u64.wrap (bits .xor .u64 (x:Int) ((x:Int) / (s:Int)) * (c:Int)) / (s:Int)) * (d:Int)) / (s:Int))=((mixG s c d x:Nat):Int):=by
 rw [mixStep_u64 x s c hx]
 have hyl:(x ^^^ x / s) * c % 18446744073709551616 < 18446744073709551616:=Nat.mod_lt _ (by decide)
 unfold mixG
 generalize (x ^^^ x / s) * c % 18446744073709551616=y at *
 rw [mixStep_u64 y s d hyl]
 have hzl:(y ^^^ y / s) * d % 18446744073709551616 < 18446744073709551616:=Nat.mod_lt _ (by decide)
 generalize (y ^^^ y / s) * d % 18446744073709551616=z at *
 exact xorShift_u64 z s hzl
theorem mixG_lt (s c d x:Nat):mixG s c d x < 18446744073709551616:=by
 unfold mixG
 have hzl:((x ^^^ x / s) * c % 18446744073709551616 ^^^ (x ^^^ x / s) * c % 18446744073709551616 / s) * d % 18446744073709551616 < 18446744073709551616:=Nat.mod_lt _ (by decide)
 generalize ((x ^^^ x / s) * c % 18446744073709551616 ^^^ (x ^^^ x / s) * c % 18446744073709551616 / s) * d % 18446744073709551616=z at *
 exact Nat.xor_lt_two_pow (n:=64) hzl (Nat.lt_of_le_of_lt (Nat.div_le_self _ _) hzl)
theorem Mix_calls (x:Nat) (hx:x < 18446744073709551616) (w:World):Calls Tryz.prog 212 #[.int .u64 (x:Int)] w (Just (.int .u64 (mixN x:Nat)) w):=by
 have HM:=kH (mixG_eq x 8589934592 18397679294719823053 14181476777654086739 hx)
 go_enter Tryz.func212,Tryz.ntmps212
 go_wp2
 go_ret
 refine ⟨?_,rfl⟩
 unfold mixN
 rw [← HM.out]
 rfl
theorem hash_lt (c:Int):hashC c < 512:=by
 unfold hashC
 have:mixN (un64 c).toNat < 18446744073709551616:=mixG_lt _ _ _ _
 generalize mixN (un64 c).toNat=x at *
 omega
theorem SigHash_calls (c:Int) (w:World):Calls Tryz.prog 171 #[.int .i64 c] w (Just (.int .i64 (hashC c:Nat)) w):=by
 have hu:IntKind.u64.wrap c=(((un64 c).toNat:Nat):Int):=by
   rw [IntKind.wrap_u64];unfold un64;omega
 have hul:(un64 c).toNat < 18446744073709551616:=by unfold un64;omega
 have hl:=hash_lt c
 unfold hashC at *
 generalize (un64 c).toNat=u at *
 have HC:=kH (Mix_calls u hul w)
 have hm:mixN u < 18446744073709551616:=mixG_lt _ _ _ _
 generalize mixN u=x at *
 have hh:((x:Int) / 36028797018963968)=((x / 36028797018963968:Nat):Int):=by omega
 generalize x / 36028797018963968=y at *
 go_enter Tryz.func171,Tryz.ntmps171
 go_wp2_with fail
 refine HC.out.mono ?_
 rintro e w' ⟨rfl,rfl⟩
 go_wp2
 go_ret
 exact ⟨rfl,rfl⟩
theorem Stamp_calls (h:Int) (w:World):Calls Tryz.prog 213 #[.int .i64 h] w (Just (.int .i64 (stampH h)) w):=by
 go_enter Tryz.func213,Tryz.ntmps213
 go_wp2
 go_ret
 exact ⟨rfl,rfl⟩
theorem and_one (h:Int):bits .and .i64 h 1=h % 2:=by
 have h1:(BitVec.ofInt 64 1).toNat=2 ^ 1 - 1:=by decide
 have key:(BitVec.ofInt 64 h &&& BitVec.ofInt 64 1).toNat=(h % ((2 ^ 64:Nat):Int)).toNat % 2 ^ 1:=by
   rw [BitVec.toNat_and,BitVec.toNat_ofInt,h1,Nat.and_two_pow_sub_one_eq_mod]
 show IntKind.i64.wrap ((BitVec.ofInt 64 h &&& BitVec.ofInt 64 1).toNat:Nat)=h % 2
 rw [key]
 simp [IntKind.wrap,IntKind.bits,IntKind.signed]
 omega
theorem Done_calls (h:Int) (w:World):Calls Tryz.prog 214 #[.int .i64 h] w (Just (.bool (doneH h)) w):=by
 have e:(bits .and .i64 h 1 == 1)=doneH h:=by rw [and_one];unfold doneH;rfl
 have HE:=kH e
 clear e
 go_enter Tryz.func214,Tryz.ntmps214
 go_wp2
 go_ret
 exact ⟨congrArg (fun v=>Ending.returned (Value.bool v)) HE.out,rfl⟩
theorem wraps_i62 (n:Int) (h0:0≤n) (h1:n < 2 ^ 62):IntKind.i64.wrap n=n:=by rw [IntKind.wrap_i64];omega
theorem Head_calls (s:Int) (d:Bool) (h0:0≤s) (h1:s≤1099511627776) (w:World):Calls Tryz.prog 177 #[.int .i64 s,.bool d] w (Just (.int .i64 (headI s d)) w):=by
 have e:bits .or .i64 (s * 2) 1=2 * s+1:=by
   rw [bits_join .i64 62 (by decide) wraps_i62 1 (s * 2) 1 (by omega) (by omega) (by omega) (by omega) (by decide) (by decide)]
   omega
 have HE:=kH e
 clear e
 cases d
 · go_enter Tryz.func177,Tryz.ntmps177
   go_wp2
   go_ret
   refine ⟨?_,rfl⟩
   simp [headI]
   omega
 · go_enter Tryz.func177,Tryz.ntmps177
   go_wp2
   go_ret
   refine ⟨?_,rfl⟩
   simp [headI,HE.out]
theorem may_calls (r:Int) (h0:1≤r) (h1:r≤16) (w:World):Calls Tryz.prog 217 #[.int .i64 r] w (Just (.bool true) w):=by
 go_enter Tryz.func217,Tryz.ntmps217
 go_wp2
 go_ret
 exact ⟨rfl,rfl⟩
theorem Slot_calls (s r:Int) (h0:1≤r) (h1:r≤16) (w:World):Calls Tryz.prog 216 #[.int .i64 s,.int .i64 r] w (Just (.int .i64 (slotI s r)) w):=by
 obtain ⟨n,rfl⟩:=Int.eq_ofNat_of_zero_le (show 0≤r by omega)
 have h2:s.tmod n=if 0≤s∨(n:Int) ∣ s then s % n else s % n - n:=by
   have:=Int.tmod_eq_emod (a:=s) (b:=n)
   simp only [Int.natAbs_natCast] at this
   rw [this]
   split <;> simp
 have h3:=Int.emod_nonneg s (show (n:Int)≠0 by omega)
 have h4:=Int.emod_lt_of_pos s (show 0 < (n:Int) by omega)
 have h5:(0≤s∨(n:Int) ∣ s)∨¬ (0≤s∨(n:Int) ∣ s):=by exact Classical.em _
 unfold slotI
 have HM:=kH (may_calls n h0 h1 w)
 have hn0:¬ ((n:Int)=0):=by omega
 rcases h5 with h5 | h5
 · rw [if_pos h5] at h2
   clear h5
   have h6:¬ (s.tmod n < 0):=by omega
   go_enter Tryz.func216,Tryz.ntmps216
   go_wp2_with fail
   refine HM.out.mono ?_
   rintro e w' ⟨rfl,rfl⟩
   go_wp2
   go_ret
   exact ⟨rfl,rfl⟩
 · rw [if_neg h5] at h2
   clear h5
   have h6:s.tmod n < 0:=by omega
   go_enter Tryz.func216,Tryz.ntmps216
   go_wp2_with fail
   refine HM.out.mono ?_
   rintro e w' ⟨rfl,rfl⟩
   go_wp2
   go_ret
   exact ⟨rfl,rfl⟩
theorem Over_calls (h s:Int) (w:World):Calls Tryz.prog 172 #[.int .i64 h,.int .i64 s] w (Just (.bool (overH h s)) w):=by
 have HS:=kH (Stamp_calls h w)
 have HD:=kH (Done_calls h w)
 unfold overH
 generalize stampH h=sh at *
 generalize doneH h=d at *
 rcases (show s < 1∨(1≤s∧s < sh)∨(1≤s∧sh < s)∨(1≤s∧sh=s) from by omega) with h1 | ⟨h1,h2⟩ | ⟨h1,h2⟩ | ⟨h1,h2⟩
 · rw [decide_eq_true (.inl h1)]
   go_enter Tryz.func172,Tryz.ntmps172
   go_wp2_with fail
   refine HS.out.mono ?_
   rintro e w' ⟨rfl,rfl⟩
   go_wp2
   go_ret
   exact ⟨rfl,rfl⟩
 · rw [decide_eq_true (.inr (.inl h2))]
   have k1:decide (s < 1)=false:=by simp;omega
   go_enter Tryz.func172,Tryz.ntmps172
   go_wp2_with fail
   refine HS.out.mono ?_
   rintro e w' ⟨rfl,rfl⟩
   go_wp2
   go_ret
   exact ⟨rfl,rfl⟩
 · have hf:decide (s < 1∨s < sh∨sh=s∧d=true)=false:=decide_eq_false (by omega)
   rw [hf]
   have k1:decide (s < 1)=false:=by simp;omega
   have k2:decide (s < sh)=false:=by simp;omega
   have k3:(sh == s)=false:=by simp;omega
   clear hf
   go_enter Tryz.func172,Tryz.ntmps172
   go_wp2_with fail
   refine HS.out.mono ?_
   rintro e w' ⟨rfl,rfl⟩
   go_wp2
   go_ret
   exact ⟨rfl,rfl⟩
 · subst h2
   have k1:decide (sh < 1)=false:=by simp;omega
   have hf:decide (sh < 1∨sh < sh∨sh=sh∧d=true)=d:=by cases d <;> simp <;> omega
   rw [hf]
   clear hf
   go_enter Tryz.func172,Tryz.ntmps172
   go_wp2_with fail
   refine HS.out.mono ?_
   rintro e w' ⟨rfl,rfl⟩
   go_wp2_with fail
   refine HD.out.mono ?_
   rintro e w' ⟨rfl,rfl⟩
   go_wp2
   go_ret
   exact ⟨rfl,rfl⟩
theorem Laid_calls (h s:Int) (w:World):Calls Tryz.prog 231 #[.int .i64 h,.int .i64 s] w (Just (.bool (decide (stampH h=s))) w):=by
 have HS:=kH (Stamp_calls h w)
 have e:(stampH h == s)=decide (stampH h=s):=by rfl
 rw [← e]
 clear e
 generalize stampH h=sh at *
 go_enter Tryz.func231,Tryz.ntmps231
 go_wp2_with fail
 refine HS.out.mono ?_
 rintro e w' ⟨rfl,rfl⟩
 go_wp2
 go_ret
 exact ⟨rfl,rfl⟩
theorem Free_calls (h s r:Int) (h0:1≤r) (h1:r≤16) (hs:0≤s∧s≤1099511627777) (w:World):Calls Tryz.prog 174 #[.int .i64 h,.int .i64 s,.int .i64 r] w (Just (.bool (freeH h s r)) w):=by
 have HM:=kH (may_calls r h0 h1 w)
 have HO:=kH (Over_calls h (s - r) w)
 unfold freeH
 generalize overH h (s - r)=o at *
 by_cases hl:s < r
 · rw [decide_eq_true (.inl hl)]
   go_enter Tryz.func174,Tryz.ntmps174
   go_wp2_with fail
   refine HM.out.mono ?_
   rintro e w' ⟨rfl,rfl⟩
   go_wp2
   go_ret
   exact ⟨rfl,rfl⟩
 · have k1:decide (s < r)=false:=by simp;omega
   have hf:decide (s < r∨o=true)=o:=by cases o <;> simp <;> omega
   rw [hf]
   clear hf hl
   go_enter Tryz.func174,Tryz.ntmps174
   go_wp2_with fail
   refine HM.out.mono ?_
   rintro e w' ⟨rfl,rfl⟩
   go_wp2_with fail
   refine HO.out.mono ?_
   rintro e w' ⟨rfl,rfl⟩
   go_wp2
   go_ret
   exact ⟨rfl,rfl⟩
end
section
open Go.RowKit
def sigA (s:List Int):Array Value:=(s.map (Value.int .u64)).toArray
def sigV (s:List Int):Value:=.agg (sigA s)
theorem infoSig:(Tryz.prog.info? 42).map (·.size)=some 8:=by kernel_rfl
theorem eight {s:List Int} (h:s.length=8):∃ a b c d e f g i,s=[a,b,c,d,e,f,g,i]:=by
 match s,h with
 | [a,b,c,d,e,f,g,i],_=>exact ⟨a,b,c,d,e,f,g,i,rfl⟩
theorem With_calls (s:List Int) (c:Int) (hs:SigOk s) (w:World):Calls Tryz.prog 109 #[sigV s,.int .i64 c] w (Gives (sigV (withC s c)) w):=by
 have HH:=kH (SigHash_calls c)
 have hl:=hash_lt c
 obtain ⟨a0,a1,a2,a3,a4,a5,a6,a7,rfl⟩:=eight hs.1
 clear hs
 have hv:sigV [a0,a1,a2,a3,a4,a5,a6,a7]=.agg #[.int .u64 a0,.int .u64 a1,.int .u64 a2,.int .u64 a3,.int .u64 a4,.int .u64 a5,.int .u64 a6,.int .u64 a7]:=rfl
 rw [hv]
 clear hv
 unfold withC withBit
 generalize hashC c=k at *
 obtain ⟨q,r,hk,hr⟩:∃ q r,k=64 * q+r∧r < 64:=⟨k / 64,k % 64,by omega,by omega⟩
 have e1:k / 64=q:=by omega
 have e2:k % 64=r:=by omega
 rw [e1,e2]
 have k2:bits .and .i64 (k:Int) 63=(r:Int):=by
   have:=bits_mask .i64 62 (by decide) wraps_i62 6 (by decide) (k:Int) (by omega) (by omega)
   rw [show ((2:Int) ^ 6 - 1)=63 by decide,show ((2:Int) ^ 6)=64 by decide] at this
   rw [this]
   omega
 have k3:(((k:Int)) / 64)=(q:Int):=by omega
 clear hk e1 e2
 have k4:IntKind.u64.wrap (2 ^ r)=((2 ^ r:Nat):Int):=by
   have:(2:Nat) ^ r < 2 ^ 64:=Nat.pow_lt_pow_right (by decide) hr
   rw [IntKind.wrap_u64]
   have h3:((2:Int) ^ r)=((2 ^ r:Nat):Int):=by simp
   rw [h3]
   generalize 2 ^ r=y at *
   omega
 generalize 2 ^ r=y at *
 rcases (show q=0∨q=1∨q=2∨q=3∨q=4∨q=5∨q=6∨q=7 by omega) with rfl | rfl | rfl | rfl | rfl | rfl | rfl | rfl
 all_goals
   go_enter Tryz.func109,Tryz.ntmps109
   go_wp2_with fail
   refine (HH.out _).mono ?_
   rintro e w' ⟨rfl,rfl⟩
   go_wp2_with fail
   go_region
   go_wp2
   refine bodyPost_ret (results_cell_row rfl _ _ _ _ _ _ _ rfl (heap_new_at (w:=w.alloc _) (by simp)) Tryz.underlying42 rfl infoSig) rfl ⟨rfl,?_⟩
   exact (below_alloc_of (below_alloc w _) _).drew
end
section
open Go.RowKit
def intsA (l:List Int):Array Value:=(l.map (Value.int .i64)).toArray
theorem intsA_at (l:List Int) (i:Nat) (h:i < l.length):(intsA l)[i]?=some (.int .i64 (l.getD i 0)):=by
 simp [intsA,h,List.getD_eq_getElem?_getD]
theorem intsA_set (l:List Int) (i:Nat) (v:Int):(intsA l).setIfInBounds i (.int .i64 v)=intsA (l.set i v):=by
 unfold intsA
 apply Array.ext'
 simp
def ptr (b:Nat):Value:=.pointer (some ⟨b,0,none⟩)
structure MemR (w:World) (p hb sb cb:Nat) (lv:Value) (m:MemD) (L:Nat):Prop where
 blk:w.heap[p]?=some (.cells #[.int .i64 m.newest,.slice (some ⟨hb,0,none⟩) m.heads.length m.heads.length,.slice (some ⟨sb,0,none⟩) m.heads.length m.heads.length,.slice (some ⟨cb,0,none⟩) m.cells.length m.cells.length,lv] 120 (0,0))
 heads:w.heap[hb]?=some (.cells (intsA m.heads) 2 (0,0))
 sigs:w.heap[sb]?=some (.cells (intsA m.sigs) 278 (0,0))
 cells:w.heap[cb]?=some (.cells (intsA m.cells) 2 (0,0))
 log:∃ n xs,n≤L∧RowAt w 277 8 lv n xs
 apart:(p::hb::sb::cb::rowF lv).Nodup
 ok:MemOk m
def RepM (w:World) (p:Nat) (m:MemD) (L:Nat) (F:List Nat):Prop:=∃ hb sb cb lv,F=p::hb::sb::cb::rowF lv∧MemR w p hb sb cb lv m L
theorem MemR.lt {w:World} {p hb sb cb:Nat} {lv:Value} {m:MemD} {L:Nat} (h:MemR w p hb sb cb lv m L):∀ x∈p::hb::sb::cb::rowF lv,x < w.heap.size:=fun x hx=>by
 obtain ⟨n,xs,_,hr⟩:=h.log
 simp only [List.mem_cons] at hx
 rcases hx with rfl | rfl | rfl | rfl | hx
 · exact heap_lt h.blk
 · exact heap_lt h.heads
 · exact heap_lt h.sigs
 · exact heap_lt h.cells
 · exact hr.lt x hx
theorem RepM.lt {w:World} {p:Nat} {m:MemD} {L:Nat} {F:List Nat} (h:RepM w p m L F):∀ x∈F,x < w.heap.size:=by
 obtain ⟨hb,sb,cb,lv,rfl,h⟩:=h
 exact h.lt
theorem MemR.keep {w w':World} {p hb sb cb:Nat} {lv:Value} {m:MemD} {L:Nat} (h:MemR w p hb sb cb lv m L) (hk:∀ x∈p::hb::sb::cb::rowF lv,w'.heap[x]?=w.heap[x]?):MemR w' p hb sb cb lv m L:=by
 obtain ⟨n,xs,hn,hr⟩:=h.log
 exact ⟨(hk p (by simp)).trans h.blk,(hk hb (by simp)).trans h.heads,(hk sb (by simp)).trans h.sigs,(hk cb (by simp)).trans h.cells,⟨n,xs,hn,hr.keep fun x hx=>hk x (by simp [hx])⟩,h.apart,h.ok⟩
theorem RepM.keep {w w':World} {p:Nat} {m:MemD} {L:Nat} {F:List Nat} (h:RepM w p m L F) (hk:∀ x∈F,w'.heap[x]?=w.heap[x]?):RepM w' p m L F:=by
 obtain ⟨hb,sb,cb,lv,rfl,h⟩:=h
 exact ⟨hb,sb,cb,lv,rfl,h.keep hk⟩
theorem RepM.ok {w:World} {p:Nat} {m:MemD} {L:Nat} {F:List Nat} (h:RepM w p m L F):MemOk m:=by
 obtain ⟨hb,sb,cb,lv,rfl,h⟩:=h
 exact h.ok
theorem RepM.kept {w w':World} {p:Nat} {m:MemD} {L:Nat} {F G:List Nat} (h:RepM w p m L F) (hk:Kept G w w') (hd:∀ x∈F,x ∉ G):RepM w' p m L F :=
 h.keep fun x hx=>hk.block x (h.lt x hx) (hd x hx)
theorem MemR.box {w:World} {p hb sb cb:Nat} {lv:Value} {m:MemD} {L:Nat} (h:MemR w p hb sb cb lv m L) :
   w.cell? ⟨p,0,none⟩=some (.int .i64 m.newest)∧w.cell? ⟨p,1,none⟩=some (.slice (some ⟨hb,0,none⟩) m.heads.length m.heads.length)∧w.cell? ⟨p,2,none⟩=some (.slice (some ⟨sb,0,none⟩) m.heads.length m.heads.length) ∧
   w.cell? ⟨p,3,none⟩=some (.slice (some ⟨cb,0,none⟩) m.cells.length m.cells.length)∧w.cell? ⟨p,4,none⟩=some lv∧p < w.heap.size:=by
 have hc:=fun j=>cell_of_row w p j _ _ _ h.blk
 exact ⟨by simpa using hc 0,by simpa using hc 1,by simpa using hc 2,by simpa using hc 3,by simpa using hc 4,heap_lt h.blk⟩
theorem Sizes_calls (w:World) (p hb sb cb:Nat) (lv:Value) (m:MemD) (L:Nat) (h:MemR w p hb sb cb lv m L) :
   Calls Tryz.prog 39 #[ptr p] w (fun e w'=>e=.returned (.tuple #[.int .i64 m.cells.length,.int .i64 m.heads.length])∧Below w.heap.size w w'):=by
 obtain ⟨c0,c1,c2,c3,c4,hlt⟩:=h.box
 clear h
 unfold ptr
 go_enter Tryz.func39,Tryz.ntmps39
 go_wp2
 go_quiet (fail)
 go_wp2
 go_ret2
 exact ⟨rfl,below_drewN_ w _⟩
def addrV (k i j:Int):Value:=.agg #[.int .i64 k,.int .i64 i,.int .i64 j]
def WordP (q:Addr) (w:World) (e:Ending) (w':World):Prop:=e=.returned (.pointer (some q))∧Below w.heap.size w w'
theorem word_newest (w:World) (p hb sb cb:Nat) (lv:Value) (m:MemD) (L:Nat) (h:MemR w p hb sb cb lv m L) :
   Calls Tryz.prog 218 #[ptr p,addrV 1 0 0] w (WordP ⟨p,0,none⟩ w):=by
 obtain ⟨c0,c1,c2,c3,c4,hlt⟩:=h.box
 clear h
 unfold ptr addrV
 go_enter Tryz.func218,Tryz.ntmps218
 go_wp2
 go_ret
 exact ⟨rfl,below_alloc w _⟩
theorem word_head (w:World) (p hb sb cb:Nat) (lv:Value) (m:MemD) (L i:Nat) (h:MemR w p hb sb cb lv m L) (hi:i < m.heads.length) :
   Calls Tryz.prog 218 #[ptr p,addrV 2 i 0] w (WordP ⟨hb,i,none⟩ w):=by
 obtain ⟨c0,c1,c2,c3,c4,hlt⟩:=h.box
 have hil:(i:Int) < (m.heads.length:Int):=by omega
 clear h hi
 unfold ptr addrV
 go_enter Tryz.func218,Tryz.ntmps218
 go_wp2
 go_quiet (fail)
 go_wp2
 go_quiet (fail)
 go_wp2
 go_ret
 exact ⟨by simp,(below_alloc w _).trans ⟨rfl,rfl,rfl,Nat.le_refl _,fun _ _=>rfl⟩⟩
theorem word_sig (w:World) (p hb sb cb:Nat) (lv:Value) (m:MemD) (L i j:Nat) (h:MemR w p hb sb cb lv m L) (hi:i < m.heads.length) (hj:j < 8) :
   Calls Tryz.prog 218 #[ptr p,addrV 3 i j] w (WordP ⟨sb,i * 8+j,none⟩ w):=by
 obtain ⟨c0,c1,c2,c3,c4,hlt⟩:=h.box
 have hil:(i:Int) < (m.heads.length:Int):=by omega
 have hjl:(j:Int) < 8:=by omega
 clear h hi
 unfold ptr addrV
 rcases (show j=0∨0 < (j:Int) by omega) with rfl | hj0
 all_goals
   go_enter Tryz.func218,Tryz.ntmps218
   go_wp2
   go_quiet (fail)
   go_wp2
   go_quiet (fail)
   go_wp2
   go_quiet (fail)
   go_wp2
   go_ret
   exact ⟨by simp,(below_alloc w _).trans ⟨rfl,rfl,rfl,Nat.le_refl _,fun _ _=>rfl⟩⟩
theorem word_cell (w:World) (p hb sb cb:Nat) (lv:Value) (m:MemD) (L i:Nat) (h:MemR w p hb sb cb lv m L) (hi:i < m.cells.length) :
   Calls Tryz.prog 218 #[ptr p,addrV 4 i 0] w (WordP ⟨cb,i,none⟩ w):=by
 obtain ⟨c0,c1,c2,c3,c4,hlt⟩:=h.box
 have hil:(i:Int) < (m.cells.length:Int):=by omega
 clear h hi
 unfold ptr addrV
 go_enter Tryz.func218,Tryz.ntmps218
 go_wp2
 go_quiet (fail)
 go_wp2
 go_quiet (fail)
 go_wp2
 go_quiet (fail)
 go_wp2
 go_quiet (fail)
 go_wp2
 go_ret
 exact ⟨by simp,(below_alloc w _).trans ⟨rfl,rfl,rfl,Nat.le_refl _,fun _ _=>rfl⟩⟩
end
section
open Go.RowKit
theorem infoAcc:(Tryz.prog.info? 277).map (fun i=>(i.zero,i.size,i.bytes))=some (some (.agg #[.int .i64 0,.int .i64 0,.int .i64 0,.int .i64 0,.int .i64 0,.int .i64 0,.int .i64 0,.bool false]),8,64):=by kernel_rfl
theorem cells3 {w:World} {g:Nat} {a b c:Value} {t:TypeId} (h:w.heap[g]?=some (.cells #[a,b,c] t (0,0))) :
   w.cell? ⟨g,0,none⟩=some a∧w.cell? ⟨g,1,none⟩=some b∧w.cell? ⟨g,2,none⟩=some c:=by
 have hc:=fun j=>cell_of_row w g j _ _ _ h
 exact ⟨by simpa using hc 0,by simpa using hc 1,by simpa using hc 2⟩
theorem new_cell {w:World} {cs:Array Value} {t:TypeId} {g:Nat} (h:w.heap[g]?=some (.cells cs t (0,0))) (j:Nat) (u:Value) (hu:cs.toList[j]?=some u):w.cell? ((⟨g,0,none⟩:Addr).add j)=some u:=by
 have:(⟨g,0,none⟩:Addr).add j=⟨g,j,none⟩:=by unfold Addr.add;split <;> simp_all
 rw [this,cell_of_row w g j _ _ _ h]
 simpa using hu
theorem log_done {w w1 W4 w5:World} {p hb sb cb g cap nl L:Nat} {lv:Value} {m:MemD} {xs:List Value} (hB:Kept (p::hb::sb::cb::rowF lv) w w1) (hR:MemR w1 p hb sb cb lv m L) (h4:Kept [] w1 W4) (hg:W4.grownBy w5 lv.ownBlock)
   (hat:lv.ownBlock=some g∨g=W4.heap.size) (hn:nl≤L) (hown:w5.ownsRow 0 277 8 (.slice (some ⟨g,0,none⟩) (nl+1) cap) (nl+1) xs) :
   MemR (w5.setCell ⟨p,4,none⟩ (.slice (some ⟨g,0,none⟩) (nl+1) cap)) p hb sb cb (.slice (some ⟨g,0,none⟩) (nl+1) cap) m (L+1) ∧
     Kept (p::hb::sb::cb::rowF lv) w (w5.setCell ⟨p,4,none⟩ (.slice (some ⟨g,0,none⟩) (nl+1) cap))∧Fresh w.heap.size (rowF lv) [g] ∧
     ∀ (q:Addr) (v:Value),q.block < w1.heap.size→q.block ∉ rowF lv→q≠⟨p,4,none⟩→w1.cell? q=some v→(w5.setCell ⟨p,4,none⟩ (.slice (some ⟨g,0,none⟩) (nl+1) cap)).cell? q=some v:=by
 have hlt:=hR.lt
 have hz:=hB.size
 have hz4:=h4.size
 have hnd:=hR.apart
 simp only [List.nodup_cons,List.mem_cons,not_or] at hnd
 obtain ⟨⟨n1,n2,n3,n4⟩,⟨n5,n6,n7⟩,⟨n8,n9⟩,n10,n11⟩:=hnd
 have hf1:Fresh w1.heap.size (rowF lv) [g]:=fun x hx=>by
   rw [List.mem_singleton.1 hx]
   rcases hat with h | h
   · exact .inl (rowF_own h)
   · exact .inr (by omega)
 have hgb:∀ k,k < w1.heap.size→k ∉ rowF lv→w5.heap[k]?=w1.heap[k]?:=fun k hk hr =>
   (hg.block k (by omega) (fun e=>hr (rowF_own e.symm))).trans (h4.block k hk (by simp))
 have hgn:∀ k,k < w1.heap.size→k ∉ rowF lv→k≠g:=fun k hk hr e=>by
   rcases hf1 g (by simp) with h | h
   · exact hr (e ▸ h)
   · omega
 have hl:=fun x h=>hlt x h
 have lp:=hlt p (by simp)
 have lh:=hlt hb (by simp)
 have ls:=hlt sb (by simp)
 have lc:=hlt cb (by simp)
 have ho:∀ k,k < w1.heap.size→k ∉ rowF lv→k≠p→(w5.setCell ⟨p,4,none⟩ (.slice (some ⟨g,0,none⟩) (nl+1) cap)).heap[k]?=w1.heap[k]?:=fun k hk hr hkp =>
   (Below.heap_setCell _ _ _ _ (by simpa using hkp)).trans (hgb k hk hr)
 have hk5:Kept (p::hb::sb::cb::rowF lv) w w5:=(hB.trans h4 (fun x hx=>nomatch hx)).grown hg (fun q hq=>.inl (by have:=rowF_own hq;simp [this]))
 refine ⟨⟨?_,?_,?_,?_,⟨nl+1,xs,by omega,?_⟩,?_,hR.ok⟩,?_,fun x hx=>?_,fun q v hq hr hne hc=>?_⟩
 · have h5:=heap_set (i:=4) (v:=.slice (some ⟨g,0,none⟩) (nl+1) cap) ((hgb p lp n4).trans hR.blk)
   exact h5
 · exact (ho hb lh n7 (fun e=>n1 e.symm)).trans hR.heads
 · exact (ho sb ls n9 (fun e=>n2 e.symm)).trans hR.sigs
 · exact (ho cb lc n10 (fun e=>n3 e.symm)).trans hR.cells
 · exact RowAt.keep (w:=w5) hown (fun x hx=>Below.heap_setCell _ _ _ _ (by
     simp [rowF] at hx
     subst hx
     simpa using (hgn p lp n4).symm))
 · simp only [rowF,List.nodup_cons,List.mem_cons,not_or,List.not_mem_nil,not_false_eq_true,and_true,List.nodup_nil]
   exact ⟨⟨n1,n2,n3,hgn p lp n4⟩,⟨n5,n6,hgn hb lh n7⟩,⟨n8,hgn sb ls n9⟩,hgn cb lc n10⟩
 · exact Kept.set (p:=⟨p,4,none⟩) hk5 (.inl List.mem_cons_self) _
 · rcases hf1 x hx with h | h
   · exact .inl h
   · exact .inr (by omega)
 · rw [World.cell?_setCell_other (h:=Ne.symm hne)]
   exact (World.cell?_of_block (hgb q.block hq hr)).trans hc
theorem MemR.frozen {w:World} {p hb sb cb:Nat} {lv:Value} {m:MemD} {L:Nat} (h:MemR w p hb sb cb lv m L) (i:Nat) :
   w.frozen? ⟨p,i,none⟩=false∧w.frozen? ⟨hb,i,none⟩=false∧w.frozen? ⟨sb,i,none⟩=false∧w.frozen? ⟨cb,i,none⟩=false :=
 ⟨frozen_of_row w p i _ _ h.blk,frozen_of_row w hb i _ _ h.heads,frozen_of_row w sb i _ _ h.sigs,frozen_of_row w cb i _ _ h.cells⟩
structure SetR (w:World) (p hb sb cb:Nat) (lv:Value) (m m':MemD) (L:Nat) (q:Addr) (v:Int):Prop where
 rep:MemR (w.setCell q (.int .i64 v)) p hb sb cb lv m' L
 blk:q.block∈p::hb::sb::cb::rowF lv
 nor:q.block ∉ rowF lv
 nlog:q≠⟨p,4,none⟩
 there:∃ u,w.cell? q=some u
 froz:w.frozen? q=false
theorem set_newest {w:World} {p hb sb cb:Nat} {lv:Value} {m:MemD} {L:Nat} (h:MemR w p hb sb cb lv m L) {v:Int} (hv:I64 v):SetR w p hb sb cb lv m { m with newest:=v } L ⟨p,0,none⟩ v:=by
 have hnd:=h.apart
 simp only [List.nodup_cons,List.mem_cons,not_or] at hnd
 obtain ⟨⟨n1,n2,n3,n4⟩,⟨n5,n6,n7⟩,⟨n8,n9⟩,n10,n11⟩:=hnd
 obtain ⟨n,xs,hn,hr⟩:=h.log
 refine ⟨⟨heap_set (i:=0) (v:=.int .i64 v) h.blk,heap_set_other h.heads (by simpa using Ne.symm n1),heap_set_other h.sigs (by simpa using Ne.symm n2),heap_set_other h.cells (by simpa using Ne.symm n3),⟨n,xs,hn,hr.keep fun x hx=>heap_setCell_other _ _ _ _ (by simp;exact fun e=>n4 (e ▸ hx))⟩,h.apart,h.ok.setNew hv⟩,by simp,n4,by simp,⟨_,h.box.1⟩,(h.frozen 0).1⟩
theorem set_head {w:World} {p hb sb cb:Nat} {lv:Value} {m:MemD} {L:Nat} (h:MemR w p hb sb cb lv m L) (s:Int) {v:Int} (hv:I64 v) (i:Nat) (hi:(slotI s m.ring).toNat=i) (hil:i < m.heads.length):SetR w p hb sb cb lv m (m.setHead s v) L ⟨hb,i,none⟩ v:=by
 subst hi
 have hnd:=h.apart
 simp only [List.nodup_cons,List.mem_cons,not_or] at hnd
 obtain ⟨⟨n1,n2,n3,n4⟩,⟨n5,n6,n7⟩,⟨n8,n9⟩,n10,n11⟩:=hnd
 obtain ⟨n,xs,hn,hr⟩:=h.log
 have hl:(m.setHead s v).heads.length=m.heads.length:=by simp [MemD.setHead]
 refine ⟨⟨?_,?_,heap_set_other h.sigs (by simpa using Ne.symm n5),heap_set_other h.cells (by simpa using Ne.symm n6),⟨n,xs,hn,hr.keep fun x hx=>heap_setCell_other _ _ _ _ (by simp;exact fun e=>n7 (e ▸ hx))⟩,h.apart,h.ok.setHead s hv⟩,by simp,n7,by simp,?_,(h.frozen _).2.1⟩
 · rw [hl]
   exact heap_set_other h.blk (by simpa using n1)
 · have h2:=heap_set (i:=(slotI s m.ring).toNat) (v:=.int .i64 v) h.heads
   rw [intsA_set] at h2
   exact h2
 · exact ⟨_,(cell_of_row w hb _ _ _ _ h.heads).trans (intsA_at _ _ hil)⟩
theorem set_sig {w:World} {p hb sb cb:Nat} {lv:Value} {m:MemD} {L:Nat} (h:MemR w p hb sb cb lv m L) (s j:Int) {v:Int} (hv:I64 v) (i:Nat) (hi:(slotI s m.ring * 8+j).toNat=i) (hil:i < m.sigs.length):SetR w p hb sb cb lv m (m.setSig s j v) L ⟨sb,i,none⟩ v:=by
 subst hi
 have hnd:=h.apart
 simp only [List.nodup_cons,List.mem_cons,not_or] at hnd
 obtain ⟨⟨n1,n2,n3,n4⟩,⟨n5,n6,n7⟩,⟨n8,n9⟩,n10,n11⟩:=hnd
 obtain ⟨n,xs,hn,hr⟩:=h.log
 refine ⟨⟨heap_set_other h.blk (by simpa using n2),heap_set_other h.heads (by simpa using n5),?_,heap_set_other h.cells (by simpa using Ne.symm n8),⟨n,xs,hn,hr.keep fun x hx=>heap_setCell_other _ _ _ _ (by simp;exact fun e=>n9 (e ▸ hx))⟩,h.apart,h.ok.setSig s j hv⟩,by simp,n9,by simp,?_,(h.frozen _).2.2.1⟩
 · have h2:=heap_set (i:=(slotI s m.ring * 8+j).toNat) (v:=.int .i64 v) h.sigs
   rw [intsA_set] at h2
   exact h2
 · exact ⟨_,(cell_of_row w sb _ _ _ _ h.sigs).trans (intsA_at _ _ hil)⟩
theorem set_cell {w:World} {p hb sb cb:Nat} {lv:Value} {m:MemD} {L:Nat} (h:MemR w p hb sb cb lv m L) (c:Int) {v:Int} (hv:I64 v) (i:Nat) (hi:c.toNat=i) (hil:i < m.cells.length):SetR w p hb sb cb lv m (m.setCell c v) L ⟨cb,i,none⟩ v:=by
 subst hi
 have hnd:=h.apart
 simp only [List.nodup_cons,List.mem_cons,not_or] at hnd
 obtain ⟨⟨n1,n2,n3,n4⟩,⟨n5,n6,n7⟩,⟨n8,n9⟩,n10,n11⟩:=hnd
 obtain ⟨n,xs,hn,hr⟩:=h.log
 have hl:(m.setCell c v).cells.length=m.cells.length:=by simp [MemD.setCell]
 refine ⟨⟨?_,heap_set_other h.heads (by simpa using n6),heap_set_other h.sigs (by simpa using n8),?_,⟨n,xs,hn,hr.keep fun x hx=>heap_setCell_other _ _ _ _ (by simp;exact fun e=>n10 (e ▸ hx))⟩,h.apart,h.ok.setCell c hv⟩,by simp,n10,by simp,?_,(h.frozen _).2.2.2⟩
 · rw [hl]
   exact heap_set_other h.blk (by simpa using n3)
 · have h2:=heap_set (i:=c.toNat) (v:=.int .i64 v) h.cells
   rw [intsA_set] at h2
   exact h2
 · exact ⟨_,(cell_of_row w cb _ _ _ _ h.cells).trans (intsA_at _ _ hil)⟩
end
end Go.Proofs.YtgfogfciobmmpaaGreatDoor
