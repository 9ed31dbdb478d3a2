/- A part of the proof of the law TopTells: PlcPSize PlcPCheck. -/
import Derived.Test.YtgfogfciobmmpaaGreatDoorPAa
import Derived.Test.YtgfogfciobmmpaaGreatDoorProg
import Derived.KernelRfl
import Derived.BigQuiet
import Derived.Deep.QuietTactic
import Derived.Lib.Hide
import Derived.Outline
import Derived.Deep.LoopGhost
set_option linter.unusedSimpArgs false
set_option linter.unusedVariables false
set_option maxRecDepth 100000
set_option maxHeartbeats 8000000
namespace Go.Proofs.YtgfogfciobmmpaaGreatDoor
namespace Plc
open Go.RowKit
theorem just_quiet {f:FuncId} {args:Array Value} {w:World} {n:Nat} {v:Value} (h:∀ W,Calls Tryz.prog f args W (Just v W)) :
   Calls Tryz.prog f args (w.drewN n) fun e w''=>e=.returned v∧∃ m,w''=w.drewN m:=(h _).mono fun _ _ ⟨h1,h2⟩=>⟨h1,n,h2.symm⟩
def withinB (n a b:Int):Bool:=decide (a≤n∧n≤b)
theorem within_t {n a b:Int} (h1:a≤n) (h2:n≤b):withinB n a b=true:=decide_eq_true ⟨h1,h2⟩
theorem within_f {n a b:Int} (h:n < a∨b < n):withinB n a b=false:=decide_eq_false (by omega)
theorem within_calls (n a b:Int) (w:World):Calls Tryz.prog 49 #[.int .i64 n,.int .i64 a,.int .i64 b] w (Just (.bool (withinB n a b)) w):=by
 rcases (show n < a∨(a≤n∧b < n)∨(a≤n∧n≤b) from by omega) with h | ⟨h,h1⟩ | ⟨h,h1⟩
 · rw [within_f (.inl h)]
   have h':decide (a≤n)=false:=by simp;omega
   clear h
   go_enter Tryz.func49,Tryz.ntmps49
   go_wp2
   go_ret
   exact ⟨rfl,rfl⟩
 · rw [within_f (.inr h1)]
   have h':decide (n≤b)=false:=by simp;omega
   clear h1
   go_enter Tryz.func49,Tryz.ntmps49
   go_wp2
   go_ret
   exact ⟨rfl,rfl⟩
 · rw [within_t h h1]
   go_enter Tryz.func49,Tryz.ntmps49
   go_wp2
   go_ret
   exact ⟨rfl,rfl⟩
theorem within64_calls (n a b:Int) (w:World):Calls Tryz.prog 50 #[.int .i64 n,.int .i64 a,.int .i64 b] w (Just (.bool (withinB n a b)) w):=by
 rcases (show n < a∨(a≤n∧b < n)∨(a≤n∧n≤b) from by omega) with h | ⟨h,h1⟩ | ⟨h,h1⟩
 · rw [within_f (.inl h)]
   have h':decide (a≤n)=false:=by simp;omega
   clear h
   go_enter Tryz.func50,Tryz.ntmps50
   go_wp2
   go_ret
   exact ⟨rfl,rfl⟩
 · rw [within_f (.inr h1)]
   have h':decide (n≤b)=false:=by simp;omega
   clear h1
   go_enter Tryz.func50,Tryz.ntmps50
   go_wp2
   go_ret
   exact ⟨rfl,rfl⟩
 · rw [within_t h h1]
   go_enter Tryz.func50,Tryz.ntmps50
   go_wp2
   go_ret
   exact ⟨rfl,rfl⟩
def rightB (a:Int):Bool:=decide (0≤a∧a≤16)
theorem rightB_t {a:Int} (h1:0≤a) (h2:a≤16):rightB a=true:=decide_eq_true ⟨h1,h2⟩
theorem rightB_f {a:Int} (h:a < 0∨16 < a):rightB a=false:=decide_eq_false (by omega)
theorem Right_calls (a:Int) (w:World):Calls Tryz.prog 77 #[.int .i64 a] w (Just (.bool (rightB a)) w):=by
 rcases (show a < 0∨(0≤a∧16 < a)∨(0≤a∧a≤16) from by omega) with h | ⟨h,h1⟩ | ⟨h,h1⟩
 · rw [rightB_f (.inl h)]
   have h2:decide (0≤a)=false:=by simp;omega
   clear h
   go_enter Tryz.func77,Tryz.ntmps77
   go_wp2
   go_ret
   exact ⟨rfl,rfl⟩
 · rw [rightB_f (.inr h1)]
   have h2:decide (a≤16)=false:=by simp;omega
   clear h1
   go_enter Tryz.func77,Tryz.ntmps77
   go_wp2
   go_ret
   exact ⟨rfl,rfl⟩
 · rw [rightB_t h h1]
   go_enter Tryz.func77,Tryz.ntmps77
   go_wp2
   go_ret
   exact ⟨rfl,rfl⟩
def szI (kind cap:Int):Int:=if kind=1 then cap else if kind=2 then cap+2 else if kind=3 then 3 * cap+1 else 2 * cap+3
def regB (kind cap:Int):Bool:=decide (1≤kind∧kind≤4∧0≤cap∧cap≤16)
def sizeN (kind cap:Int):Int:=if regB kind cap=true then szI kind cap else 0
def sizeE (kind cap:Int):Int:=if regB kind cap=true then 0 else 13
theorem size_no {kind cap:Int} (h:kind < 1∨4 < kind∨cap < 0∨16 < cap):sizeN kind cap=0∧sizeE kind cap=13:=by
 have e:regB kind cap=false:=decide_eq_false (by omega)
 simp [sizeN,sizeE,e]
theorem size_yes {kind cap:Int} (h1:1≤kind) (h2:kind≤4) (h3:0≤cap) (h4:cap≤16):sizeN kind cap=szI kind cap∧sizeE kind cap=0:=by
 have e:regB kind cap=true:=decide_eq_true ⟨h1,h2,h3,h4⟩
 simp [sizeN,sizeE,e]
theorem size_bd (kind cap:Int):0≤sizeN kind cap∧sizeN kind cap≤49:=by
 unfold sizeN
 split
 · rename_i h
   have:=of_decide_eq_true h
   unfold szI
   split
   · omega
   · split
     · omega
     · split <;> omega
 · omega
section
variable (a:Int) (w:World) (h:0≤a) (h1:a≤16)
include h h1
theorem Size1_calls:Calls Tryz.prog 73 #[.int .i64 a] w (Just (.int .i64 (szI 1 a)) w):=by
 have e:szI 1 a=a:=rfl
 rw [e]
 go_enter Tryz.func73,Tryz.ntmps73
 go_wp2
 go_ret
 exact ⟨rfl,rfl⟩
theorem Size2_calls:Calls Tryz.prog 74 #[.int .i64 a] w (Just (.int .i64 (szI 2 a)) w):=by
 have e:szI 2 a=a+2:=rfl
 rw [e]
 go_enter Tryz.func74,Tryz.ntmps74
 go_wp2
 go_ret
 exact ⟨rfl,rfl⟩
theorem Size3_calls:Calls Tryz.prog 75 #[.int .i64 a] w (Just (.int .i64 (szI 3 a)) w):=by
 have e:szI 3 a=3 * a+1:=rfl
 rw [e]
 go_enter Tryz.func75,Tryz.ntmps75
 go_wp2
 go_ret
 exact ⟨rfl,rfl⟩
theorem Size4_calls:Calls Tryz.prog 76 #[.int .i64 a] w (Just (.int .i64 (szI 4 a)) w):=by
 have e:szI 4 a=2 * a+3:=rfl
 rw [e]
 go_enter Tryz.func76,Tryz.ntmps76
 go_wp2
 go_ret
 exact ⟨rfl,rfl⟩
theorem RSize1_calls:Calls Tryz.prog 78 #[.int .i64 a] w (Just (.int .i64 (szI 1 a)) w):=by
 have e:szI 1 a=a:=rfl
 rw [e]
 have hr:=rightB_t h h1
 go_enter Tryz.func78,Tryz.ntmps78
 go_wp2_with (go_at_call 77;refine (Right_calls _ _).mono ?_;rintro e w' ⟨rfl,rfl⟩)
 go_ret
 exact ⟨rfl,rfl⟩
theorem RSize2_calls:Calls Tryz.prog 79 #[.int .i64 a] w (Just (.int .i64 (szI 2 a)) w):=by
 have e:szI 2 a=a+2:=rfl
 rw [e]
 have hr:=rightB_t h h1
 go_enter Tryz.func79,Tryz.ntmps79
 go_wp2_with (go_at_call 77;refine (Right_calls _ _).mono ?_;rintro e w' ⟨rfl,rfl⟩)
 go_ret
 exact ⟨rfl,rfl⟩
theorem RSize3_calls:Calls Tryz.prog 80 #[.int .i64 a] w (Just (.int .i64 (szI 3 a)) w):=by
 have e:szI 3 a=3 * a+1:=rfl
 rw [e]
 have hr:=rightB_t h h1
 go_enter Tryz.func80,Tryz.ntmps80
 go_wp2_with (go_at_call 77;refine (Right_calls _ _).mono ?_;rintro e w' ⟨rfl,rfl⟩)
 go_ret
 exact ⟨rfl,rfl⟩
theorem RSize4_calls:Calls Tryz.prog 81 #[.int .i64 a] w (Just (.int .i64 (szI 4 a)) w):=by
 have e:szI 4 a=2 * a+3:=rfl
 rw [e]
 have hr:=rightB_t h h1
 go_enter Tryz.func81,Tryz.ntmps81
 go_wp2_with (go_at_call 77;refine (Right_calls _ _).mono ?_;rintro e w' ⟨rfl,rfl⟩)
 go_ret
 exact ⟨rfl,rfl⟩
end
def regV (kind cap:Int):Value:=.agg #[.int .i64 kind,.int .i64 cap]
def sizeV (kind cap:Int):Value:=.tuple #[.int .i64 (sizeN kind cap),.int .i64 (sizeE kind cap)]
theorem RSize_calls (kind cap:Int) (w:World):Calls Tryz.prog 53 #[regV kind cap] w (Gives (sizeV kind cap) w):=by
 unfold sizeV regV
 rcases (show (cap < 0∨16 < cap)∨(0≤cap∧cap≤16) from by omega) with h | ⟨h,h1⟩
 · obtain ⟨e1,e2⟩:=size_no (kind:=kind) (cap:=cap) (by omega)
   rw [e1,e2]
   have hr:=rightB_f h
   clear e1 e2 h
   go_enter Tryz.func53,Tryz.ntmps53
   go_wp2_with (go_at_call 77;refine (Right_calls _ _).mono ?_;rintro e w' ⟨rfl,rfl⟩)
   go_ret2
   exact ⟨rfl,below_alloc _ _⟩
 · have hr:=rightB_t h h1
   rcases (show kind=1∨kind=2∨kind=3∨kind=4∨(kind≠1∧kind≠2∧kind≠3∧kind≠4) from by omega) with rfl | rfl | rfl | rfl | ⟨k1,k2,k3,k4⟩
   case inr.inr.inr.inr =>
     obtain ⟨e1,e2⟩:=size_no (kind:=kind) (cap:=cap) (by omega)
     rw [e1,e2]
     have g1:(kind == 1)=false:=by simpa using k1
     have g2:(kind == 2)=false:=by simpa using k2
     have g3:(kind == 3)=false:=by simpa using k3
     have g4:(kind == 4)=false:=by simpa using k4
     clear e1 e2 k1 k2 k3 k4
     go_enter Tryz.func53,Tryz.ntmps53
     go_wp2_with (go_at_call 77;refine (Right_calls _ _).mono ?_;rintro e w' ⟨rfl,rfl⟩)
     go_ret2
     exact ⟨rfl,below_alloc _ _⟩
   all_goals
     rw [(size_yes (by omega) (by omega) h h1).1,(size_yes (by omega) (by omega) h h1).2]
     go_enter Tryz.func53,Tryz.ntmps53
     go_wp2_with (first | (go_at_call 77;refine (Right_calls _ _).mono ?_;rintro e w' ⟨rfl,rfl⟩) | (go_at_call 78;refine (RSize1_calls _ _ h h1).mono ?_;rintro e w' ⟨rfl,rfl⟩) | (go_at_call 79;refine (RSize2_calls _ _ h h1).mono ?_;rintro e w' ⟨rfl,rfl⟩) | (go_at_call 80;refine (RSize3_calls _ _ h h1).mono ?_;rintro e w' ⟨rfl,rfl⟩) | (go_at_call 81;refine (RSize4_calls _ _ h h1).mono ?_;rintro e w' ⟨rfl,rfl⟩))
     go_ret2
     exact ⟨rfl,below_alloc _ _⟩
theorem Size_calls (kind cap:Int) (w:World):Calls Tryz.prog 51 #[regV kind cap] w (Gives (sizeV kind cap) w):=by
 unfold sizeV regV
 rcases (show (kind < 1∨4 < kind)∨(1≤kind∧kind≤4) from by omega) with h | ⟨hk,hk1⟩
 · obtain ⟨e1,e2⟩:=size_no (kind:=kind) (cap:=cap) (by omega)
   rw [e1,e2]
   have hw:=within_f h
   clear e1 e2 h
   go_enter Tryz.func51,Tryz.ntmps51
   go_wp2_with (go_at_call 49;refine (within_calls _ _ _ _).mono ?_;rintro e w' ⟨rfl,rfl⟩)
   go_ret2
   exact ⟨rfl,below_alloc_of (below_alloc _ _) _⟩
 · have hw:=within_t hk hk1
   rcases (show (cap < 0∨16 < cap)∨(0≤cap∧cap≤16) from by omega) with h | ⟨h,h1⟩
   · obtain ⟨e1,e2⟩:=size_no (kind:=kind) (cap:=cap) (by omega)
     rw [e1,e2]
     have hw2:=within_f h
     clear e1 e2 h hk hk1
     go_enter Tryz.func51,Tryz.ntmps51
     go_wp2_with (go_at_call 49;refine (within_calls _ _ _ _).mono ?_;rintro e w' ⟨rfl,rfl⟩)
     go_ret2
     exact ⟨rfl,below_alloc_of (below_alloc _ _) _⟩
   · have hw2:=within_t h h1
     rcases (show kind=1∨kind=2∨kind=3∨kind=4 from by omega) with rfl | rfl | rfl | rfl
     all_goals
       rw [(size_yes (by omega) (by omega) h h1).1,(size_yes (by omega) (by omega) h h1).2]
       go_enter Tryz.func51,Tryz.ntmps51
       go_wp2_with (go_at_call 49;refine (within_calls _ _ _ _).mono ?_;rintro e w' ⟨rfl,rfl⟩)
       go_quiet ((first | (go_at_call 73;exact just_quiet (fun W=>Size1_calls _ W h h1)) | (go_at_call 74;exact just_quiet (fun W=>Size2_calls _ W h h1)) | (go_at_call 75;exact just_quiet (fun W=>Size3_calls _ W h h1)) | (go_at_call 76;exact just_quiet (fun W=>Size4_calls _ W h h1))))
       go_wp2
       go_ret2
       exact ⟨rfl,(below_alloc_of (below_alloc _ _) _).trans ⟨rfl,rfl,rfl,Nat.le_refl _,fun _ _=>rfl⟩⟩
end Plc
namespace Plc
open Go.RowKit
def ReadsR (w:World) (B:Nat) (v:Value) (rs:List (Int×Int)):Prop :=
 rs.length≤8796093021952∧∃ (a:Option Addr) (c:Nat),v=.slice a rs.length c∧rs.length≤c∧c≤9223372036854775807 ∧
   (rs=[]∨∃ b off,a=some ⟨b,off,none⟩∧b < B∧∀ i,i < rs.length→w.cell? ⟨b,off+i * 2,none⟩=some (.int .i64 (rs.getD i (0,0)).1)∧w.cell? ⟨b,off+i * 2+1,none⟩=some (.int .i64 (rs.getD i (0,0)).2))
theorem ReadsR.below {w w':World} {B:Nat} {v:Value} {rs:List (Int×Int)} (h:ReadsR w B v rs) (hb:Below B w w'):ReadsR w' B v rs:=by
 obtain ⟨h1,a,c,rfl,hc,hm,h3⟩:=h
 refine ⟨h1,a,c,rfl,hc,hm,?_⟩
 rcases h3 with h3 | ⟨b,off,rfl,hB,hcell⟩
 · exact .inl h3
 · exact .inr ⟨b,off,rfl,hB,fun i hi=>⟨(hb.cell (p:=⟨b,off+i * 2,none⟩) hB).trans (hcell i hi).1,(hb.cell (p:=⟨b,off+i * 2+1,none⟩) hB).trans (hcell i hi).2⟩⟩
theorem ReadsR.mono {w:World} {B B':Nat} {v:Value} {rs:List (Int×Int)} (h:ReadsR w B v rs) (hb:B≤B'):ReadsR w B' v rs:=by
 obtain ⟨h1,a,c,rfl,hc,hm,h3⟩:=h
 refine ⟨h1,a,c,rfl,hc,hm,?_⟩
 rcases h3 with h3 | ⟨b,off,rfl,hB,hcell⟩
 · exact .inl h3
 · exact .inr ⟨b,off,rfl,by omega,hcell⟩
structure Cfg where
 raw:Int
 ring:Int
 writes:Int
 stamps:Int
 multi:Bool
 tries:Int
def Cfg.cells (c:Cfg) (rv:Value):Array Value:=#[.int .i64 c.raw,.int .i64 c.ring,.int .i64 c.writes,.int .i64 c.stamps,.bool c.multi,.int .i64 c.tries,rv]
def Cfg.val (c:Cfg) (rv:Value):Value:=.agg (c.cells rv)
def fieldsB (c:Cfg) (n:Nat):Bool:=decide (1≤c.raw∧c.raw≤64∧1≤c.ring∧c.ring≤16∧1≤c.writes∧c.writes≤24∧1≤c.stamps∧c.stamps≤1099511627776∧1≤c.tries∧c.tries≤255∧n≤8)
def regsB (rs:List (Int×Int)):Bool:=rs.all fun r=>regB r.1 r.2
def checkE (c:Cfg) (rs:List (Int×Int)):Int:=if fieldsB c rs.length=true∧regsB rs=true then 0 else 13
theorem check_fields {c:Cfg} {rs:List (Int×Int)} (h:fieldsB c rs.length=false):checkE c rs=13:=by simp [checkE,h]
theorem check_reg {c:Cfg} {rs:List (Int×Int)} {k:Nat} (hk:k < rs.length) (h:regB (rs.getD k (0,0)).1 (rs.getD k (0,0)).2=false):checkE c rs=13:=by
 have:regsB rs=false:=by
   unfold regsB
   rw [List.all_eq_false]
   refine ⟨rs[k],List.getElem_mem hk,?_⟩
   simpa [List.getD_eq_getElem?_getD,hk] using h
 simp [checkE,this]
theorem check_all {c:Cfg} {rs:List (Int×Int)} (h:fieldsB c rs.length=true) (hr:∀ j,j < rs.length→regB (rs.getD j (0,0)).1 (rs.getD j (0,0)).2=true):checkE c rs=0:=by
 have:regsB rs=true:=by
   unfold regsB
   rw [List.all_eq_true]
   intro r hm
   obtain ⟨j,hj,rfl⟩:=List.getElem_of_mem hm
   simpa [List.getD_eq_getElem?_getD,hj] using hr j hj
 simp [checkE,this,h]
theorem sizeE_of {kind cap:Int} {b:Bool} (h:regB kind cap=b):sizeE kind cap=if b=true then 0 else 13:=by subst h;rfl
theorem box7 {w:World} {g:Nat} {a b c d e f h:Value} {t:TypeId} (hg:w.heap[g]?=some (.cells #[a,b,c,d,e,f,h] t (0,0))) :
   w.cell? ⟨g,0,none⟩=some a∧w.cell? ⟨g,1,none⟩=some b∧w.cell? ⟨g,2,none⟩=some c∧w.cell? ⟨g,3,none⟩=some d∧w.cell? ⟨g,4,none⟩=some e∧w.cell? ⟨g,5,none⟩=some f∧w.cell? ⟨g,6,none⟩=some h:=by
 have hc:=fun j=>cell_of_row w g j _ _ _ hg
 refine ⟨?_,?_,?_,?_,?_,?_,?_⟩
 · simpa using hc 0
 · simpa using hc 1
 · simpa using hc 2
 · simpa using hc 3
 · simpa using hc 4
 · simpa using hc 5
 · simpa using hc 6
theorem Check_fields (w:World) (B:Nat) (c:Cfg) (v:Value) (rs:List (Int×Int)) (hr:ReadsR w B v rs) (hf:fieldsB c rs.length=false) :
   Calls Tryz.prog 29 #[c.val v] w (Gives (.int .i64 13) w):=by
 obtain ⟨hl,a,cp,rfl,hcp,hcm,-⟩:=hr
 obtain ⟨raw,ring,writes,stamps,multi,tries⟩:=c
 have hf':=of_decide_eq_false hf
 dsimp only at hf'
 unfold Cfg.val Cfg.cells
 dsimp only
 clear hf
 rcases (show (raw < 1∨64 < raw)∨(1≤raw∧raw≤64) from by omega) with h1 | ⟨h1,h1'⟩
 · have g1:=within_f h1
   clear hf' h1
   go_enter Tryz.func29,Tryz.ntmps29
   go_wp2_with (first | (go_at_call 49;refine (within_calls _ _ _ _).mono ?_;rintro e w' ⟨rfl,rfl⟩) | (go_at_call 50;refine (within64_calls _ _ _ _).mono ?_;rintro e w' ⟨rfl,rfl⟩))
   go_ret
   exact ⟨rfl,below_alloc _ _⟩
 have g1:=within_t h1 h1'
 rcases (show (ring < 1∨16 < ring)∨(1≤ring∧ring≤16) from by omega) with h2 | ⟨h2,h2'⟩
 · have g2:=within_f h2
   clear hf' h2
   go_enter Tryz.func29,Tryz.ntmps29
   go_wp2_with (first | (go_at_call 49;refine (within_calls _ _ _ _).mono ?_;rintro e w' ⟨rfl,rfl⟩) | (go_at_call 50;refine (within64_calls _ _ _ _).mono ?_;rintro e w' ⟨rfl,rfl⟩))
   go_ret
   exact ⟨rfl,below_alloc _ _⟩
 have g2:=within_t h2 h2'
 rcases (show (writes < 1∨24 < writes)∨(1≤writes∧writes≤24) from by omega) with h3 | ⟨h3,h3'⟩
 · have g3:=within_f h3
   clear hf' h3
   go_enter Tryz.func29,Tryz.ntmps29
   go_wp2_with (first | (go_at_call 49;refine (within_calls _ _ _ _).mono ?_;rintro e w' ⟨rfl,rfl⟩) | (go_at_call 50;refine (within64_calls _ _ _ _).mono ?_;rintro e w' ⟨rfl,rfl⟩))
   go_ret
   exact ⟨rfl,below_alloc _ _⟩
 have g3:=within_t h3 h3'
 rcases (show (stamps < 1∨1099511627776 < stamps)∨(1≤stamps∧stamps≤1099511627776) from by omega) with h4 | ⟨h4,h4'⟩
 · have g4:=within_f h4
   clear hf' h4
   go_enter Tryz.func29,Tryz.ntmps29
   go_wp2_with (first | (go_at_call 49;refine (within_calls _ _ _ _).mono ?_;rintro e w' ⟨rfl,rfl⟩) | (go_at_call 50;refine (within64_calls _ _ _ _).mono ?_;rintro e w' ⟨rfl,rfl⟩))
   go_ret
   exact ⟨rfl,below_alloc _ _⟩
 have g4:=within_t h4 h4'
 rcases (show (tries < 1∨255 < tries)∨(1≤tries∧tries≤255) from by omega) with h5 | ⟨h5,h5'⟩
 · have g5:=within_f h5
   clear hf' h5
   go_enter Tryz.func29,Tryz.ntmps29
   go_wp2_with (first | (go_at_call 49;refine (within_calls _ _ _ _).mono ?_;rintro e w' ⟨rfl,rfl⟩) | (go_at_call 50;refine (within64_calls _ _ _ _).mono ?_;rintro e w' ⟨rfl,rfl⟩))
   go_ret
   exact ⟨rfl,below_alloc _ _⟩
 have g5:=within_t h5 h5'
 have h6:(8:Int) < (rs.length:Int):=by omega
 clear hf'
 go_enter Tryz.func29,Tryz.ntmps29
 go_wp2_with (first | (go_at_call 49;refine (within_calls _ _ _ _).mono ?_;rintro e w' ⟨rfl,rfl⟩) | (go_at_call 50;refine (within64_calls _ _ _ _).mono ?_;rintro e w' ⟨rfl,rfl⟩))
 go_ret
 exact ⟨rfl,below_alloc _ _⟩
theorem Check_loop (w:World) (B:Nat) (c:Cfg) (v:Value) (rs:List (Int×Int)) (hr:ReadsR w B v rs) (hB:B≤w.heap.size) (hf:fieldsB c rs.length=true) :
   Calls Tryz.prog 29 #[c.val v] w (Gives (.int .i64 (checkE c rs)) w):=by
 obtain ⟨hl,a,cp,rfl,hcp,hcm,hr⟩:=hr
 have HALL:=kH (check_all hf)
 have HREG:=kH (fun k hk h=>check_reg (c:=c) (rs:=rs) (k:=k) hk h)
 generalize checkE c rs=E at *
 obtain ⟨raw,ring,writes,stamps,multi,tries⟩:=c
 obtain ⟨h1,h1',h2,h2',h3,h3',h4,h4',h5,h5',h6⟩:=of_decide_eq_true hf
 dsimp only at h1 h1' h2 h2' h3 h3' h4 h4' h5 h5'
 have g1:=within_t h1 h1'
 have g2:=within_t h2 h2'
 have g3:=within_t h3 h3'
 have g4:=within_t h4 h4'
 have g5:=within_t h5 h5'
 have h6':(rs.length:Int)≤8:=by omega
 have HR:=kH hr
 unfold Cfg.val Cfg.cells
 dsimp only
 clear hf hr
 go_enter Tryz.func29,Tryz.ntmps29
 go_wp2_with (first | (go_at_call 49;refine (within_calls _ _ _ _).mono ?_;rintro e w' ⟨rfl,rfl⟩) | (go_at_call 50;refine (within64_calls _ _ _ _).mono ?_;rintro e w' ⟨rfl,rfl⟩))
 go_loopg [44] (rs.length+1) (fun n v44 wr=>∃ (k:Nat),k≤rs.length∧v44=.int .i64 k∧n+k=rs.length+1∧(∀ j,j < k→regB (rs.getD j (0,0)).1 (rs.getD j (0,0)).2=true)∧Below w.heap.size w wr)
 case atStart=>exact ⟨0,Nat.zero_le _,rfl,rfl,fun j hj=>by omega,below_alloc _ _⟩
 case round =>
   obtain ⟨k,hk,rfl,hn,hall,bel⟩:=hrel
   have HN:=kH hn
   have HA:=kH hall
   clear hn hall
   by_cases hlt:k < rs.length
   · rcases HR.out with h | ⟨b,off,rfl,hbB,hcell⟩
     · exact absurd hlt (by rw [h];simp)
     have hc0:=(bel.cell (p:=⟨b,off+k * 2,none⟩) (by simp;omega)).trans (hcell k hlt).1
     have hc1:=(bel.cell (p:=⟨b,off+k * 2+1,none⟩) (by simp;omega)).trans (hcell k hlt).2
     have hreg:=HREG.out k hlt
     have HA':Hid (regB (rs.getD k (0,0)).1 (rs.getD k (0,0)).2=true→∀ j,j < k+1→regB (rs.getD j (0,0)).1 (rs.getD j (0,0)).2=true):=fun h j hj=>by
       by_cases e:j=k
       · subst e;exact h
       · exact HA.out j (by omega)
     generalize (rs.getD k (0,0)).1=kind at *
     generalize (rs.getD k (0,0)).2=cap at *
     have hbs:b < wr.heap.size:=by have:=bel.size;omega
     have hlt':(k:Int) < (rs.length:Int):=by omega
     clear hcell
     by_cases hb:regB kind cap=true
     · have he:=sizeE_of hb
       rw [if_pos rfl] at he
       clear hreg
       have HB:=kH hb
       have HE:=kH he
       clear hb he
       go_wp2_with fail
       refine (Size_calls kind cap _).mono ?_
       rintro e w1 ⟨rfl,hb1⟩
       simp only [sizeV,HE.out]
       go_wp2
       go_roundg (rs.length - k)
       case measure=>have:=HN.out;omega
       case rel=>exact ⟨k+1,by omega,by go_num,by omega,HA'.out HB.out,bel.trans ((below_trans (below_alloc _ _) hb1).mono bel.size)⟩
     · have hb':regB kind cap=false:=by simpa using hb
       have he:=sizeE_of hb'
       rw [if_neg (by decide)] at he
       have HE:=kH he
       have HF:=kH (hreg hb')
       clear hb hb' he hreg
       go_wp2_with fail
       refine (Size_calls kind cap _).mono ?_
       rintro e w1 ⟨rfl,hb1⟩
       simp only [sizeV,HE.out]
       go_wp2
       go_ret
       exact ⟨by rw [HF.out];rfl,bel.trans ((below_trans (below_alloc _ _) hb1).mono bel.size)⟩
   · have HF:=kH (HALL.out (fun j hj=>HA.out j (by omega)))
     have hk':k=rs.length:=by omega
     subst hk'
     go_wp2
     go_ret
     exact ⟨by rw [HF.out];rfl,bel⟩
theorem Check_calls (w:World) (B:Nat) (c:Cfg) (v:Value) (rs:List (Int×Int)) (hr:ReadsR w B v rs) (hB:B≤w.heap.size) :
   Calls Tryz.prog 29 #[c.val v] w (Gives (.int .i64 (checkE c rs)) w):=by
 by_cases hf:fieldsB c rs.length=true
 · exact Check_loop w B c v rs hr hB hf
 · rw [check_fields (by simpa using hf)]
   exact Check_fields w B c v rs hr (by simpa using hf)
end Plc
end Go.Proofs.YtgfogfciobmmpaaGreatDoor
