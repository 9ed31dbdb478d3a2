/- A part of the proof of the law TopTells: App Kept. -/
import Derived.Test.YtgfogfciobmmpaaGreatDoorPAa
import Derived.WalkKit
import Derived.Lib.Hide
set_option linter.unusedSimpArgs false
set_option linter.unusedVariables false
set_option maxRecDepth 100000
set_option maxHeartbeats 8000000
namespace Go.Proofs.YtgfogfciobmmpaaGreatDoor
section
open Go.RowKit
end
section
open Go.RowKit
structure Kept (F:List Nat) (w w':World):Prop where
 os:w'.os=w.os
 tape:w'.tape=w.tape
 output:w'.output=w.output
 size:w.heap.size≤w'.heap.size
 block:∀ k,k < w.heap.size→k ∉ F→w'.heap[k]?=w.heap[k]?
def Fresh (n:Nat) (F F':List Nat):Prop:=∀ x∈F',x∈F∨n≤x
theorem Fresh.refl (n:Nat) (F:List Nat):Fresh n F F:=fun _ hx=>.inl hx
theorem Fresh.trans {n m:Nat} {F G H:List Nat} (h:Fresh n F G) (k:Fresh m G H) (hm:n≤m):Fresh n F H:=fun x hx=>by
 rcases k x hx with h1 | h1
 · exact h x h1
 · exact .inr (Nat.le_trans hm h1)
theorem Fresh.apart {n:Nat} {F F' G:List Nat} (h:Fresh n F F') (hd:∀ x∈F,x ∉ G) (hg:∀ x∈G,x < n):∀ x∈F',x ∉ G:=fun x hx hxg=>by
 rcases h x hx with h1 | h1
 · exact hd x h1 hxg
 · have:=hg x hxg
   omega
theorem Kept.refl (F:List Nat) (w:World):Kept F w w:=⟨rfl,rfl,rfl,Nat.le_refl _,fun _ _ _=>rfl⟩
theorem Kept.of_below {w w':World} (h:Below w.heap.size w w') (F:List Nat):Kept F w w':=⟨h.os,h.tape,h.output,h.size,fun k hk _=>h.block k hk⟩
theorem Kept.below {w w':World} (h:Kept [] w w'):Below w.heap.size w w':=⟨h.os,h.tape,h.output,h.size,fun k hk=>h.block k hk (by simp)⟩
theorem Kept.belowN {F:List Nat} {w w':World} (h:Kept F w w') {n:Nat} (hn:n≤w.heap.size) (hF:∀ x∈F,n≤x):Below n w w' :=
 ⟨h.os,h.tape,h.output,h.size,fun k hk=>h.block k (by omega) (fun hx=>by have:=hF k hx;omega)⟩
theorem Kept.mono {F G:List Nat} {w w':World} (h:Kept F w w') (hs:Fresh w.heap.size G F):Kept G w w' :=
 ⟨h.os,h.tape,h.output,h.size,fun k hk hn=>h.block k hk (fun hx=>by
   rcases hs k hx with h1 | h1
   · exact hn h1
   · omega)⟩
theorem Kept.trans {F G:List Nat} {a b c:World} (h:Kept F a b) (k:Kept G b c) (hs:Fresh a.heap.size F G):Kept F a c :=
 ⟨k.os.trans h.os,k.tape.trans h.tape,k.output.trans h.output,Nat.le_trans h.size k.size,fun q hq hn=>by
   rw [k.block q (Nat.lt_of_lt_of_le hq h.size) (fun hx=>by
     rcases hs q hx with h1 | h1
     · exact hn h1
     · omega)]
   exact h.block q hq hn⟩
theorem Kept.then {F:List Nat} {a b c:World} (h:Kept F a b) (k:Kept F b c):Kept F a c:=h.trans k (Fresh.refl _ _)
theorem Kept.alloc {F:List Nat} {a b:World} (h:Kept F a b) (o:Obj):Kept F a (b.alloc o) :=
 h.trans (G:=[]) ⟨rfl,rfl,rfl,by simp,fun k hk _=>heap_alloc_old b o hk⟩ (fun _ hx=>nomatch hx)
theorem Kept.drewN {F:List Nat} {a b:World} (h:Kept F a b) (n:Nat):Kept F a (b.drewN n):=h.trans (G:=[]) ⟨rfl,rfl,rfl,Nat.le_refl _,fun _ _ _=>rfl⟩ (fun _ hx=>nomatch hx)
theorem Kept.set {F:List Nat} {a b:World} (h:Kept F a b) {p:Addr} (hp:p.block∈F∨a.heap.size≤p.block) (v:Value):Kept F a (b.setCell p v) :=
 h.trans (G:=[p.block]) ⟨rfl,rfl,rfl,by simp,fun k _ hn=>Below.heap_setCell _ _ _ _ (by simpa using hn)⟩ (fun x hx=>by rw [List.mem_singleton.1 hx];exact hp)
theorem Kept.grown {F:List Nat} {a b c:World} {ob:Option Nat} (h:Kept F a b) (g:b.grownBy c ob) (hob:∀ q,ob=some q→q∈F∨a.heap.size≤q):Kept F a c :=
 h.trans (G:=ob.toList) ⟨g.os,g.tape,g.output,g.size,fun k hk hn=>g.block k hk (fun e=>hn (by rw [← e];simp))⟩ (fun x hx=>hob x (by simpa using hx))
theorem Kept.heap {F:List Nat} {w w':World} (h:Kept F w w') {k:Nat} {o:Obj} (ho:w.heap[k]?=some o) (hn:k ∉ F):w'.heap[k]?=some o :=
 (h.block k (Array.getElem?_eq_some_iff.1 ho).1 hn).trans ho
theorem Kept.cell {F:List Nat} {w w':World} (h:Kept F w w') {p:Addr} (hlt:p.block < w.heap.size) (hn:p.block ∉ F):w'.cell? p=w.cell? p :=
 World.cell?_of_block (h.block p.block hlt hn)
theorem below_drewN_ (w:World) (n:Nat):Below w.heap.size w (w.drewN n):=⟨rfl,rfl,rfl,Nat.le_refl _,fun _ _=>rfl⟩
theorem heap_new_at {w:World} {o:Obj} {n:Nat} (h:n=w.heap.size):(w.alloc o).heap[n]?=some o:=by subst h;exact heap_alloc_new _ _
theorem heap_old_at {w:World} {o p:Obj} {n:Nat} (h:w.heap[n]?=some p):(w.alloc o).heap[n]?=some p :=
 (heap_alloc_old w o (Array.getElem?_eq_some_iff.1 h).1).trans h
theorem heap_lt {w:World} {o:Obj} {n:Nat} (h:w.heap[n]?=some o):n < w.heap.size:=(Array.getElem?_eq_some_iff.1 h).1
def rowF:Value→List Nat
 | .slice (some a) _ _=>[a.block]
 | _=>[]
def RowAt (w:World) (e:TypeId) (sz:Nat) (v:Value) (n:Nat) (xs:List Value):Prop:=w.ownsRow 0 e sz v n xs
theorem RowAt.form {w:World} {e:TypeId} {sz:Nat} {v:Value} {n:Nat} {xs:List Value} (h:RowAt w e sz v n xs):∃ a m c,v=.slice a m c:=by
 rcases h.2 with ⟨rfl,_⟩ | ⟨g,cap,cur,rfl,_⟩
 · exact ⟨_,_,_,rfl⟩
 · exact ⟨_,_,_,rfl⟩
theorem rowAt_nil (w:World) (e:TypeId) (sz:Nat):RowAt w e sz (.slice none 0 0) 0 []:=World.ownsRow_nil _ _ _ _
theorem rowF_own {v:Value} {g:Nat} (h:v.ownBlock=some g):g∈rowF v:=by
 cases v <;> simp [Value.ownBlock] at h
 rename_i a n c
 cases a with
 | none=>simp at h
 | some a=>simp at h;subst h;simp [rowF]
theorem RowAt.lt {w:World} {e:TypeId} {sz:Nat} {v:Value} {n:Nat} {xs:List Value} (h:RowAt w e sz v n xs):∀ x∈rowF v,x < w.heap.size:=fun x hx=>by
 rcases h.2 with ⟨rfl,_⟩ | ⟨g,cap,cur,rfl,_,hg,_⟩
 · simp [rowF] at hx
 · simp [rowF] at hx
   subst hx
   exact heap_lt hg
theorem RowAt.keep {w w':World} {e:TypeId} {sz:Nat} {v:Value} {n:Nat} {xs:List Value} (h:RowAt w e sz v n xs) (hk:∀ x∈rowF v,w'.heap[x]?=w.heap[x]?):RowAt w' e sz v n xs:=by
 refine ⟨h.1,?_⟩
 rcases h.2 with hn | ⟨g,cap,cur,rfl,hb,hg,r⟩
 · exact .inl hn
 · exact .inr ⟨g,cap,cur,rfl,hb,(hk g (by simp [rowF])).trans hg,r⟩
theorem RowAt.kept {F:List Nat} {w w':World} {e:TypeId} {sz:Nat} {v:Value} {n:Nat} {xs:List Value} (h:RowAt w e sz v n xs) (hk:Kept F w w') (hd:∀ x∈rowF v,x ∉ F):RowAt w' e sz v n xs :=
 h.keep fun x hx=>hk.block x (h.lt x hx) (hd x hx)
end
end Go.Proofs.YtgfogfciobmmpaaGreatDoor
