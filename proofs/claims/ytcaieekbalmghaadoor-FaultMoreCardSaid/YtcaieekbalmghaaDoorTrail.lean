/- fault.Of, fault.Wrap, fault.Trail. -/
import Derived.Test.YtcaieekbalmghaaDoorCode
namespace Go.Proofs.YtcaieekbalmghaaDoor
open Go.RowKit Go.Extern.Stop Go.Stop Go.Extern

set_option maxRecDepth 100000 in
theorem of_zero (w : World) : Calls Tryd.prog 6 #[.int .i64 0] w fun r w' => r = .returned .nilIface ∧ w = w' := by
  go_enter Tryd.func6, Tryd.ntmps6
  go_wp2
  go_ret
  exact ⟨rfl, rfl⟩
set_option maxRecDepth 100000 in
theorem of_some (e : Int) (he : (e == 0) = false) (w : World) : Calls Tryd.prog 6 #[.int .i64 e] w fun r w' => r = .returned (errV e []) ∧ w = w' := by
  go_enter Tryd.func6, Tryd.ntmps6
  go_wp2
  go_ret
  exact ⟨rfl, rfl⟩
set_option maxRecDepth 100000 in
theorem wrap7 (e : Int) (tr : List (ByteArray × Int)) (s : ByteArray) (n : Int) (w : World) : Calls Tryd.prog 7 #[errV e tr, .string s, .int .i64 n] w fun r w' => r = .returned (errV e ((s, n) :: tr)) ∧ w = w' := by
  obtain ⟨u, x, hux⟩ := errV_iface e tr
  have hr : errV e ((s, n) :: tr) = .iface 38 (.agg #[.string s, .int .i64 n, .iface u x]) := by rw [errV, hux]
  rw [hr, hux]
  clear hr hux
  go_enter Tryd.func7, Tryd.ntmps7
  go_wp2
  go_ret
  exact ⟨rfl, rfl⟩

theorem as40_hit (e : Int) (s : ByteArray) (n : Int) (t : List (ByteArray × Int)) (tb : Nat) (old : Array Value) (w : World) (hg : Gt w) (ht : Blk w tb 38 old) (ho : old.size = 3) :
    Calls Tryd.prog 12 #[errV e ((s, n) :: t), .iface 40 (.pointer (some ⟨tb, 0, none⟩))] w fun r w' => r = .returned (.bool true) ∧ Blk w' tb 38 #[.string s, .int .i64 n, errV e t] ∧ w.grownBy w' (some tb) := by
  obtain ⟨u, x, hux⟩ := errV_iface e t
  rw [errV, hux]
  have h := as16_40_38 s n u x (.iface 40 (.pointer (some ⟨tb, 0, none⟩))) w.heap.size tb old ((w.alloc (.cells #[.pointer (some ⟨tb, 0, none⟩)] 40)).alloc (.cells #[.pointer (some ⟨4, 40, none⟩), .pointer (some ⟨w.heap.size, 0, none⟩), .int .u64 150] 46))
    (Blk.alloc (heap_alloc_new _ _) _) ((ht.alloc _).alloc _) ho
  refine as40_16 _ _ tb w _ hg (h.mono ?_)
  rintro r w' ⟨rfl, rfl⟩
  refine ⟨.inl rfl, rfl, setRow_heap _ _ _ _ _ _ ((((ht.alloc _).alloc _).alloc _).alloc _), rfl, rfl, rfl, by simp; omega, fun k hk hne => ?_⟩
  rw [setRow_other _ _ _ _ (fun h => hne (by rw [h])), Below.heap_alloc _ _ _ (by simp; omega), Below.heap_alloc _ _ _ (by simp; omega), Below.heap_alloc _ _ _ (by simp; omega), Below.heap_alloc _ _ _ hk]
theorem as40_miss (e : Int) (tb : Nat) (w : World) (hg : Gt w) :
    Calls Tryd.prog 12 #[errV e [], .iface 40 (.pointer (some ⟨tb, 0, none⟩))] w fun r w' => r = .returned (.bool false) ∧ Below w.heap.size w w' := by
  refine as40_16 _ _ tb w _ hg ((as16_40_22 e _ _ _ _ _).mono ?_)
  rintro r w' ⟨rfl, rfl⟩
  exact ⟨.inr rfl, rfl, (((Below.refl _ _).alloc (Nat.le_refl _) _).alloc (by simp) _).alloc (by simp; omega) _⟩

theorem Blk.ne_ {w : World} {g : Nat} {t : TypeId} {cs : Array Value} {g' : Nat} {t' : TypeId} {cs' : Array Value} (h : Blk w g t cs) (h' : Blk w g' t' cs') (hne : t ≠ t') : g ≠ g' := by
  rintro rfl
  unfold Blk at h h'
  rw [h] at h'
  injection h' with h'
  injection h' with _ ht
  exact hne ht
theorem own_blk_ne {w : World} {g : Nat} {t : TypeId} {cs : Array Value} {base : Nat} {e : TypeId} {size n : Nat} {v : Value} {xs : List Value} (h : w.ownsRow base e size v n xs) (hg : Blk w g t cs) (hne : e ≠ t) : v.ownBlock ≠ some g := by
  rcases h.2 with ⟨rfl, _⟩ | ⟨g', cap, cur, rfl, _, hh, _⟩
  · simp [Value.ownBlock]
  · intro he
    have : g' = g := by simpa [Value.ownBlock] using he
    subst this
    exact Blk.ne_ (t := e) hh hg hne rfl
theorem Blk.grown {w w' : World} {g : Nat} {t : TypeId} {cs : Array Value} {row : Option Nat} (h : Blk w g t cs) (hb : w.grownBy w' row) (hg : some g ≠ row) : Blk w' g t cs := (hb.block g h.lt hg).trans h

def stepCells : List (ByteArray × Int) → List Value
  | [] => []
  | (s, n) :: t => .string s :: .int .i64 n :: stepCells t
theorem stepCells_append (a b : List (ByteArray × Int)) : stepCells (a ++ b) = stepCells a ++ stepCells b := by
  induction a with
  | nil => rfl
  | cons x t ih => obtain ⟨s, n⟩ := x; simp [stepCells, ih]
theorem stepCells_length (a : List (ByteArray × Int)) : (stepCells a).length = a.length * 2 := by
  induction a with
  | nil => rfl
  | cons x t ih => obtain ⟨s, n⟩ := x; simp [stepCells, ih]; omega
theorem info25 : (Tryd.prog.info? 25).map (fun i => (i.zero, i.size, i.bytes)) = some (some (.agg #[.string ByteArray.empty, .int .i64 0]), 2, 24) := by kernel_rfl

theorem below_grownBy {w w' : World} (h : Below w.heap.size w w') : w.grownBy w' none := ⟨h.os, h.tape, h.output, h.size, fun k hk _ => h.block k hk⟩
theorem own_below {w w' : World} {base : Nat} {e : TypeId} {size n : Nat} {v : Value} {xs : List Value} (h : w.ownsRow base e size v n xs) (hb : Below w.heap.size w w') : w'.ownsRow base e size v n xs :=
  h.kept (below_grownBy hb) (by cases h : v.ownBlock <;> simp)

set_option maxHeartbeats 4000000 in
set_option maxRecDepth 100000 in
theorem trail8 (e : Int) (tr : List (ByteArray × Int)) (hlen : tr.length ≤ 100000) (w : World) (hg : Gt w) :
    Calls Tryd.prog 8 #[errV e tr] w fun r w' => ∃ v, r = .returned v ∧ w'.ownsRow w.heap.size 25 2 v tr.length (stepCells tr) ∧ Below w.heap.size w w' := by
  obtain ⟨i0, hi, hz0, hz1, hz2⟩ := info_parts info25
  go_enter Tryd.func8, Tryd.ntmps8
  go_wp2_with fail
  go_loopg [0, 3, 4] tr.length (fun k v0 v3 v4 wr => ∃ (dn rest : List (ByteArray × Int)) (tb : Nat) (old : Array Value), tr = dn ++ rest ∧ rest.length = k ∧ v0 = errV e rest ∧ wr.ownsRow w.heap.size 25 2 v3 dn.length (stepCells dn) ∧ v4 = .pointer (some ⟨tb, 0, none⟩) ∧ Blk wr tb 38 old ∧ old.size = 3 ∧ w.heap.size ≤ tb ∧ Below w.heap.size w wr)
  case atStart => exact ⟨[], tr, w.heap.size, _, rfl, rfl, rfl, ⟨by simp [stepCells], .inl ⟨rfl, rfl⟩⟩, rfl, heap_alloc_new _ _, rfl, Nat.le_refl _, (Below.refl _ _).alloc (Nat.le_refl _) _⟩
  case round =>
    obtain ⟨dn, rest, tb, old, htr, hk, rfl, hown, rfl, hblk, hold, htb, hb⟩ := hrel
    have HTR := Lib.hid htr
    have HK := Lib.hid hk
    have hgr : Gt wr := gt_below hg hb (gt_lt hg)
    have HOWN := Lib.hid hown
    have HB := Lib.hid hb
    have HG := Lib.hid hgr
    have HBLK := Lib.hid hblk
    have HOLD := Lib.hid hold
    have hdl : dn.length + rest.length ≤ 100000 := by rw [htr] at hlen; simpa using hlen
    clear htr hk hown hb hgr hblk hold hg
    cases rest with
    | nil =>
      go_wp2_with (go_at_call 12; refine (as40_miss e tb _ HG.out).mono ?_; rintro r w' ⟨rfl, hb'⟩)
      go_ret
      have ht : tr = dn := by simpa using HTR.out
      rw [ht]
      exact ⟨_, rfl, own_below HOWN.out hb', HB.out.trans (hb'.mono HB.out.size)⟩
    | cons a t =>
      obtain ⟨s, n⟩ := a
      obtain ⟨u1, x1, hux1⟩ := errV_iface e t
      have hhit := as40_hit e s n t tb old wr HG.out HBLK.out HOLD.out
      rw [hux1] at hhit
      have HHIT := Lib.hid hhit
      have HUX := Lib.hid hux1
      clear hhit hux1
      go_wp2_with fail
      refine HHIT.out.mono ?_
      rintro r w1 ⟨rfl, hblk1, hg1⟩
      have c0 := hblk1.cell 0
      have c1 := hblk1.cell 1
      simp only [List.getElem?_toArray, List.getElem?_cons_zero, List.getElem?_cons_succ] at c0 c1
      have HOWN1 := Lib.hid (HOWN.out.kept hg1 (.inr (own_blk_ne HOWN.out HBLK.out (by decide))))
      have HB1 := Lib.hid (HB.out.grown hg1 HB.out.size (fun k hk => by cases hk; exact htb))
      have HBLK1 := Lib.hid hblk1
      clear hblk1 hg1
      go_wp2_with (at_builtin; refine wpList_append_own _ rfl (.tmp 11) (.tmp 14) 23 rfl w.heap.size 25 i0 _ 2 24 Tryd.underlying23 hi hz0 hz1 hz2 rfl (by decide) _ dn.length (stepCells dn) rfl (HOWN1.out.alloc _) ⟨w1.heap.size, 0, none⟩ 1 1 [.string s, .int .i64 n] rfl rfl ?c1 ?c2 ?c3 ?c4 ?c5 ?_)
      case c1 =>
        intro j u hj
        match j, hj with
        | 0, hj => simp at hj; subst hj; simp [Addr.add]
        | 1, hj => simp at hj; subst hj; simp [Addr.add]
      case c2 => intro u hu; simp at hu; rcases hu with rfl | rfl <;> rfl
      case c3 => unfold maxLen; simp at hdl; omega
      case c4 => simp at hdl; omega
      case c5 => have := HB1.out.size; simp; omega
      intro v' w2 hown' hgrow _
      have hne := own_blk_ne HOWN1.out HBLK1.out (by decide)
      have hblk2 := (HBLK1.out.alloc (.cells #[.string s, .int .i64 n] 25)).grown hgrow (fun h => hne h.symm)
      have d0 := hblk2.cell 0
      have d1 := hblk2.cell 1
      have d2 := hblk2.cell 2
      simp only [List.getElem?_toArray, List.getElem?_cons_zero, List.getElem?_cons_succ] at d0 d1 d2
      have HB2 := Lib.hid ((HB1.out.alloc HB1.out.size (.cells #[.string s, .int .i64 n] 25)).grown hgrow (by have := HB1.out.size; simp; omega) (fun k hk => (HOWN1.out.lt k hk).1))
      have HOWN2 := Lib.hid hown'
      clear hown' hgrow hblk2 c0 c1 hne
      go_wp2
      go_roundg t.length
      case measure => have := HK.out; simp at this; omega
      case rel =>
        refine ⟨dn ++ [(s, n)], t, w2.heap.size, _, by rw [HTR.out]; simp, rfl, HUX.out.symm, ?_, rfl, heap_alloc_new _ _, rfl, HB2.out.size, HB2.out.alloc HB2.out.size _⟩
        rw [stepCells_append, List.length_append]
        exact HOWN2.out.alloc _
end Go.Proofs.YtcaieekbalmghaaDoor
