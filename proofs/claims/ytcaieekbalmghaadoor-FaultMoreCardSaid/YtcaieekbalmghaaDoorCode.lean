/- errors.As at a *api.Errno, and fault.Code. -/
import Derived.Test.YtcaieekbalmghaaDoorErr
import Derived.Deep.LoopGhost
namespace Go.Proofs.YtcaieekbalmghaaDoor
open Go.RowKit Go.Extern.Stop Go.Stop Go.Extern

set_option maxHeartbeats 4000000 in
set_option maxRecDepth 100000 in
theorem as42_16 (T : TypeId) (v : Value) (tb : Nat) (w : World) (R : Ending → World → Prop)
    (hg : w.cell? ⟨0, 0, none⟩ = some (.iface 56 (.agg #[.pointer (some ⟨4, 29, none⟩)])))
    (h16 : Calls Tryd.prog 16 #[.iface T v, .iface 42 (.pointer (some ⟨tb, 0, none⟩)), .agg #[.pointer (some ⟨4, 42, none⟩), .pointer (some ⟨w.heap.size, 0, none⟩), .int .u64 150], .iface 56 (.agg #[.pointer (some ⟨4, 22, none⟩)])]
      ((w.alloc (.cells #[.pointer (some ⟨tb, 0, none⟩)] 42)).alloc (.cells #[.pointer (some ⟨4, 42, none⟩), .pointer (some ⟨w.heap.size, 0, none⟩), .int .u64 150] 46)) (fun e w' => (e = .returned (.bool true) ∨ e = .returned (.bool false)) ∧ R e w')) :
    Calls Tryd.prog 12 #[.iface T v, .iface 42 (.pointer (some ⟨tb, 0, none⟩))] w R := by
  have h13 := x13
  have h14 := x14
  have h15 := x15
  have h34 := x34
  have h60 := x60
  have h61 := x61
  have f6 := valueOf42
  have m1 := mKind
  have m2 := mElem
  have m3 := mImpl
  have f7 := type42
  have k40 := kind42
  have k38 := kind22
  have e40 := elem42
  have i38 := implements22
  have n15 := isNil42 ⟨w.heap.size, 0, none⟩ ⟨tb, 0, none⟩ ((w.alloc (.cells #[.pointer (some ⟨tb, 0, none⟩)] 42)).alloc (.cells #[.pointer (some ⟨4, 42, none⟩), .pointer (some ⟨w.heap.size, 0, none⟩), .int .u64 150] 46)) (by simp)
  have hlt : 0 < w.heap.size := by
    rcases Nat.eq_zero_or_pos w.heap.size with h0 | h
    · simp [World.cell?, h0] at hg
    · exact h
  have hg2 : ((w.alloc (.cells #[.pointer (some ⟨tb, 0, none⟩)] 42)).alloc (.cells #[.pointer (some ⟨4, 42, none⟩), .pointer (some ⟨w.heap.size, 0, none⟩), .int .u64 150] 46)).cell? ⟨0, 0, none⟩ = some (.iface 56 (.agg #[.pointer (some ⟨4, 29, none⟩)])) := by
    rw [World.cell?_alloc_lt _ _ ⟨0, 0, none⟩ (by simp), World.cell?_alloc_lt _ _ ⟨0, 0, none⟩ hlt]; exact hg
  have H16 := Lib.hid h16
  clear h16
  go_enter Tryd.func12, Tryd.ntmps12
  go_wp2_with fail
  refine H16.out.mono ?_
  rintro e w' ⟨rfl | rfl, hR⟩
  · go_wp2_with fail
    exact hR
  · go_wp2_with fail
    exact hR

set_option maxRecDepth 100000 in
/-- (wrapped).Unwrap -/
theorem unwrap53 (s : ByteArray) (n : Int) (v : Value) (w : World) (hv : ∃ u x, v = .iface u x) :
    Calls Tryd.prog 53 #[.agg #[.string s, .int .i64 n, v]] w fun r w' => r = .returned v ∧ w' = w.alloc (.cells #[.string s, .int .i64 n, v] 38) := by
  obtain ⟨u, x, rfl⟩ := hv
  go_enter Tryd.func53, Tryd.ntmps53
  go_wp2
  go_ret
  exact ⟨rfl, rfl⟩

theorem Blk.frozen {w : World} {g : Nat} {t : TypeId} {cs : Array Value} (h : Blk w g t cs) (i : Nat) : w.frozen? ⟨g, i, none⟩ = false := by
  unfold Blk at h
  simp [World.frozen?, h]
theorem Blk.below {w w' : World} {B g : Nat} {t : TypeId} {cs : Array Value} (h : Blk w g t cs) (hb : Below B w w') (hg : g < B) : Blk w' g t cs := (hb.block g hg).trans h

set_option maxHeartbeats 4000000 in
set_option maxRecDepth 100000 in
/-- the number lies at the bottom of the chain, and is copied into the target -/
theorem as16_42 (e : Int) (tr : List (ByteArray × Int)) (t : Value) (vb tb : Nat) (old : Value) (w : World)
    (hv : Blk w vb 42 #[.pointer (some ⟨tb, 0, none⟩)]) (ht : Blk w tb 22 #[old]) :
    Calls Tryd.prog 16 #[errV e tr, t, .agg #[.pointer (some ⟨4, 42, none⟩), .pointer (some ⟨vb, 0, none⟩), .int .u64 150], .iface 56 (.agg #[.pointer (some ⟨4, 22, none⟩)])] w fun r w' =>
      r = .returned (.bool true) ∧ Blk w' tb 22 #[.int .i64 e] ∧ w.grownBy w' (some tb) := by
  have h13 := x13
  have h17 := x17
  have h18 := x18
  have h19 := x19
  have h58 := x58
  have m1 := mAssi
  have m2 := mUnwrap
  have t38 := typeOf38
  have t22 := typeOf22
  have a1 := assignable38_22
  have a2 := assignable22_22
  have f1 := valueOf22
  have n1 := noAs38
  have n2 := hasUn38
  have HV := Lib.hid hv
  have HT := Lib.hid ht
  clear hv ht
  obtain ⟨u0, x0, hux⟩ := errV_iface e tr
  have HUX := Lib.hid hux
  rw [hux]
  clear hux
  go_enter Tryd.func16, Tryd.ntmps16
  go_wp2_with fail
  go_loopg [0] tr.length (fun k v wr => ∃ tr', tr'.length = k ∧ v = errV e tr' ∧ Below w.heap.size w wr ∧ Blk wr w.heap.size 46 #[.pointer (some ⟨4, 42, none⟩), .pointer (some ⟨vb, 0, none⟩), .int .u64 150])
  case atStart => exact ⟨tr, rfl, HUX.out.symm, (Below.refl _ _).alloc (Nat.le_refl _) _, heap_alloc_new _ _⟩
  case round =>
    obtain ⟨tr', hk, rfl, hb, hblk⟩ := hrel
    have HK := Lib.hid hk
    have HBL := Lib.hid hblk
    have hc0 := hblk.cell 0
    have hc1 := hblk.cell 1
    have hc2 := hblk.cell 2
    simp only [List.getElem?_toArray, List.getElem?_cons_zero, List.getElem?_cons_succ] at hc0 hc1 hc2
    have hbv := HV.out.below hb HV.out.lt
    have hbt := HT.out.below hb HT.out.lt
    have el := elemV42 ⟨vb, 0, none⟩ ⟨tb, 0, none⟩ wr (by rw [hbv.cell 0]; rfl)
    have st := set22 ⟨tb, 0, none⟩ ⟨wr.heap.size, 0, none⟩ e old (wr.alloc (.cells #[.int .i64 e] 22)) (by simp) (by rw [(hbt.alloc _).cell 0]; rfl) ((hbt.alloc (.cells #[.int .i64 e] 22)).frozen 0)
    have HBV := Lib.hid hbv
    have HBT := Lib.hid hbt
    have HB := Lib.hid hb
    clear hk hblk hbv hbt hb
    cases tr' with
    | nil =>
      simp only [errV]
      go_wp2_with fail
      go_ret
      refine ⟨rfl, ?_, ?_⟩
      · have h1 := HBT.out.alloc (.cells #[.int .i64 e] 22)
        have h2 := h1.lt
        unfold Blk at h1 ⊢
        simp [World.setCell, Array.getElem?_modify, h1]
      · have hb := HB.out
        refine ⟨hb.os, hb.tape, hb.output, by have := hb.size; simp [World.setCell]; omega, fun k hk hne => ?_⟩
        have hkt : k ≠ tb := fun h => hne (by rw [h])
        rw [Below.heap_setCell _ _ _ _ (by simpa using hkt), Below.heap_alloc _ _ _ (by have := hb.size; omega)]
        exact hb.block k hk
    | cons a t' =>
      obtain ⟨s, n⟩ := a
      obtain ⟨u1, x1, hux1⟩ := errV_iface e t'
      have HUX1 := Lib.hid hux1
      simp only [errV]
      rw [hux1]
      clear hux1
      go_wp2_with (go_at_call 53; refine (unwrap53 s n (.iface u1 x1) _ ⟨_, _, rfl⟩).mono ?_; rintro r w' ⟨rfl, rfl⟩)
      go_roundg t'.length
      case measure => have := HK.out; simp at this; omega
      case rel => exact ⟨t', rfl, HUX1.out.symm, HB.out.alloc HB.out.size _, HBL.out.alloc _⟩
/-- the variable errors.errorType holds the handle of the type error -/
def Gt (w : World) : Prop := w.cell? ⟨0, 0, none⟩ = some (.iface 56 (.agg #[.pointer (some ⟨4, 29, none⟩)]))
theorem gt_lt {w : World} (h : Gt w) : 0 < w.heap.size := by
  rcases Nat.eq_zero_or_pos w.heap.size with h0 | h1
  · simp [Gt, World.cell?, h0] at h
  · exact h1
theorem gt_alloc {w : World} (h : Gt w) (o : Obj) : Gt (w.alloc o) := by
  unfold Gt at *
  rw [World.cell?_alloc_lt _ _ ⟨0, 0, none⟩ (gt_lt h)]; exact h
theorem gt_below {w w' : World} {B : Nat} (h : Gt w) (hb : Below B w w') (hB : 0 < B) : Gt w' := by
  unfold Gt at *
  rw [hb.cell (p := ⟨0, 0, none⟩) hB]; exact h

set_option maxRecDepth 100000 in
theorem code_nil (w : World) : Calls Tryd.prog 11 #[.nilIface] w fun r w' => r = .returned (.int .i64 0) ∧ Below w.heap.size w w' := by
  go_enter Tryd.func11, Tryd.ntmps11
  go_wp2
  go_ret
  exact ⟨rfl, (Below.refl _ _).alloc (Nat.le_refl _) _⟩

theorem as42_any (e : Int) (tr : List (ByteArray × Int)) (tb : Nat) (old : Value) (w : World) (hg : Gt w) (ht : Blk w tb 22 #[old]) :
    Calls Tryd.prog 12 #[errV e tr, .iface 42 (.pointer (some ⟨tb, 0, none⟩))] w fun r w' => r = .returned (.bool true) ∧ Blk w' tb 22 #[.int .i64 e] ∧ w.grownBy w' (some tb) := by
  obtain ⟨u, x, hux⟩ := errV_iface e tr
  have h := as16_42 e tr (.iface 42 (.pointer (some ⟨tb, 0, none⟩))) w.heap.size tb old ((w.alloc (.cells #[.pointer (some ⟨tb, 0, none⟩)] 42)).alloc (.cells #[.pointer (some ⟨4, 42, none⟩), .pointer (some ⟨w.heap.size, 0, none⟩), .int .u64 150] 46))
    (Blk.alloc (heap_alloc_new _ _) _) ((ht.alloc _).alloc _)
  rw [hux] at h ⊢
  refine as42_16 u x tb w _ hg (h.mono ?_)
  rintro r w' ⟨rfl, h1, h2⟩
  refine ⟨.inl rfl, rfl, h1, h2.os, h2.tape, h2.output, by have := h2.size; simp at this; omega, fun k hk hne => ?_⟩
  rw [h2.block k (by simp; omega) hne, Below.heap_alloc _ _ _ (by simp; omega), Below.heap_alloc _ _ _ hk]

set_option maxHeartbeats 1000000 in
set_option maxRecDepth 100000 in
/-- fault.Code of an error -/
theorem code11 (e : Int) (tr : List (ByteArray × Int)) (w : World) (hg : Gt w) :
    Calls Tryd.prog 11 #[errV e tr] w fun r w' => r = .returned (.int .i64 e) ∧ Below w.heap.size w w' := by
  have h := as42_any e tr w.heap.size (.int .i64 9) (w.alloc (.cells #[.int .i64 9] 22)) (gt_alloc hg _) (heap_alloc_new _ _)
  obtain ⟨u, x, hux⟩ := errV_iface e tr
  rw [hux] at h ⊢
  have H := Lib.hid h
  clear h hux hg
  go_enter Tryd.func11, Tryd.ntmps11
  go_wp2_with fail
  refine H.out.mono ?_
  rintro r w' ⟨rfl, h1, h2⟩
  have hc := h1.cell 0
  simp only [List.getElem?_toArray, List.getElem?_cons_zero] at hc
  have HB := Lib.hid h2
  clear h1 h2
  go_wp2
  go_ret
  exact ⟨rfl, ((Below.refl _ _).alloc (Nat.le_refl _) _).grown HB.out (by simp) (fun k hk => by cases hk; exact Nat.le_refl _)⟩
end Go.Proofs.YtcaieekbalmghaaDoor
