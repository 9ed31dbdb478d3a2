/- The walk of the law CodeTells. -/
import Derived.Test.YtafknogjhhghbaaDoorCRefAt
namespace Go.Proofs.YtafknogjhhghbaaDoor
open Go.RowKit

def True_ (w : World) (e : Ending) (w' : World) : Prop := e = .returned (.bool true) ∧ Below w.heap.size w w'

set_option maxRecDepth 100000 in
set_option maxHeartbeats 1000000 in
theorem Tells_walk (w : World) (s : ByteArray) (a : Int) (hs : s.size ≤ 140737488351232) (ht : Tabled w) : Calls Tryd.prog 4 #[.string s, .int .i64 a] w (True_ w) := by
  have H1 := Lib.hid (fun w ht => CodeAt_calls w s a (by omega) ht)
  have H2 := Lib.hid (fun w => RefAt_calls w s a hs)
  have HT := Lib.hid ht
  have h0 := ht.1
  unfold Spot4.val at *
  generalize atS s.data.toList a = x at *
  obtain ⟨c, o, n, e⟩ := x
  dsimp only at H1 H2
  clear ht
  go_enter Tryd.func4, Tryd.ntmps4
  go_wp2_with fail
  refine (H1.out _ HT.out).mono ?_
  rintro e1 w1 ⟨rfl, hb1⟩
  go_wp2_with fail
  refine (H2.out _).mono ?_
  rintro e2 w2 ⟨rfl, hb2⟩
  have hz := hb1.size
  have hg1 := box_keep hb2 (heap_new (w := w1) rfl)
  obtain ⟨⟨c0, c1⟩, ⟨f0, f1⟩, hlt⟩ := box2 hg1
  have hbel := hb1.trans ((below_trans (below_alloc _ _) hb2).mono hz)
  clear hg1
  go_wp2
  go_ret
  exact ⟨rfl, hbel.alloc hbel.size _⟩

end Go.Proofs.YtafknogjhhghbaaDoor
