/- errors.as by its contracts: the target a *fault.wrapped. -/
import Derived.Test.YtcaieekbalmghaaDoorAsC
namespace Go.Proofs.YtcaieekbalmghaaDoor
open Go.RowKit Go.Extern.Stop Go.Stop Go.Extern

set_option maxHeartbeats 4000000 in
set_option maxRecDepth 100000 in
/-- the error is an api.Errno: no. -/
theorem as16_40_22 (n : Int) (t : Value) (c0 c1 c2 : Value) (w : World) :
    Calls Tryd.prog 16 #[.iface 22 (.int .i64 n), t, .agg #[c0, c1, c2], .iface 56 (.agg #[.pointer (some ⟨4, 38, none⟩)])] w fun e w' => e = .returned (.bool false) ∧ w' = w.alloc (.cells #[c0, c1, c2] 46) := by
  have h17 := x17
  have h58 := x58
  have m1 := mAssi
  have t22 := typeOf22
  have a1 := assignable22_38
  have n1 := noAs22
  have n2 := noUn22
  have n3 := noUns22
  go_enter Tryd.func16, Tryd.ntmps16
  go_wp2_with fail
  refine wp_loop_rounds 1 ?_
  rw [rounds_succ]
  go_wp2_with fail
  go_ret
  exact ⟨rfl, rfl⟩

/-- block g is just the cells cs of type t, none frozen -/
def Blk (w : World) (g : Nat) (t : TypeId) (cs : Array Value) : Prop := w.heap[g]? = some (.cells cs t (0, 0))
theorem Blk.lt {w : World} {g : Nat} {t : TypeId} {cs : Array Value} (h : Blk w g t cs) : g < w.heap.size := by
  rcases Nat.lt_or_ge g w.heap.size with hlt | hge
  · exact hlt
  · unfold Blk at h; rw [Array.getElem?_eq_none hge] at h; cases h
theorem Blk.cell {w : World} {g : Nat} {t : TypeId} {cs : Array Value} (h : Blk w g t cs) (i : Nat) : w.cell? ⟨g, i, none⟩ = cs[i]? := cell_of_row w g i cs t (0, 0) h
theorem Blk.alloc {w : World} {g : Nat} {t : TypeId} {cs : Array Value} (h : Blk w g t cs) (o : Obj) : Blk (w.alloc o) g t cs := (Below.heap_alloc w o g h.lt).trans h

set_option maxHeartbeats 4000000 in
set_option maxRecDepth 100000 in
/-- the error is a fault.wrapped: it is copied into the target. -/
theorem as16_40_38 (s : ByteArray) (n : Int) (u : TypeId) (x : Value) (t : Value) (vb tb : Nat) (old : Array Value) (w : World)
    (hv : Blk w vb 40 #[.pointer (some ⟨tb, 0, none⟩)]) (ht : Blk w tb 38 old) (ho : old.size = 3) :
    Calls Tryd.prog 16 #[.iface 38 (.agg #[.string s, .int .i64 n, .iface u x]), t, .agg #[.pointer (some ⟨4, 40, none⟩), .pointer (some ⟨vb, 0, none⟩), .int .u64 150], .iface 56 (.agg #[.pointer (some ⟨4, 38, none⟩)])] w fun e w' =>
      e = .returned (.bool true) ∧ w' = ((w.alloc (.cells #[.pointer (some ⟨4, 40, none⟩), .pointer (some ⟨vb, 0, none⟩), .int .u64 150] 46)).alloc (.cells #[.string s, .int .i64 n, .iface u x] 38)).setRow tb #[.string s, .int .i64 n, .iface u x] := by
  have h13 := x13
  have h17 := x17
  have h18 := x18
  have h19 := x19
  have h58 := x58
  have m1 := mAssi
  have t38 := typeOf38
  have a1 := assignable38_38
  have f1 := valueOf38
  have hcv := (hv.alloc (.cells #[.pointer (some ⟨4, 40, none⟩), .pointer (some ⟨vb, 0, none⟩), .int .u64 150] 46)).cell 0
  have el := elemV40 ⟨vb, 0, none⟩ ⟨tb, 0, none⟩ (w.alloc (.cells #[.pointer (some ⟨4, 40, none⟩), .pointer (some ⟨vb, 0, none⟩), .int .u64 150] 46)) (by rw [hcv]; rfl)
  have st := set38 tb (w.heap.size + 1) s n u x old ((w.alloc (.cells #[.pointer (some ⟨4, 40, none⟩), .pointer (some ⟨vb, 0, none⟩), .int .u64 150] 46)).alloc (.cells #[.string s, .int .i64 n, .iface u x] 38))
    (by have := heap_alloc_new (w.alloc (.cells #[.pointer (some ⟨4, 40, none⟩), .pointer (some ⟨vb, 0, none⟩), .int .u64 150] 46)) (.cells #[.string s, .int .i64 n, .iface u x] 38); simpa using this)
    ((ht.alloc _).alloc _) ho
  clear hv ht ho hcv
  go_enter Tryd.func16, Tryd.ntmps16
  go_wp2_with fail
  refine wp_loop_rounds 1 ?_
  rw [rounds_succ]
  go_wp2_with fail
  go_ret
  exact ⟨rfl, rfl⟩
end Go.Proofs.YtcaieekbalmghaaDoor
