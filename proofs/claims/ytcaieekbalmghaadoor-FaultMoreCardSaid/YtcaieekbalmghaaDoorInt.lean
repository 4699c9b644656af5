/- strconv.Itoa whatever the table of powers of ten holds: it returns a text that the number and the table settle. -/
import Derived.Test.YtcaieekbalmghaaDoorNum
namespace Go.Proofs.YtcaieekbalmghaaDoor
open Go.RowKit Go.Sort Go.Lib

theorem tab_lt {tab : Nat → Int} {w : World} (h : Tab tab w) : 1 < w.heap.size := by
  have := h 0 (by omega)
  rcases Nat.lt_or_ge 1 w.heap.size with h1 | h1
  · exact h1
  · simp [World.cell?, Array.getElem?_eq_none h1] at this
theorem tab_alloc {tab : Nat → Int} {w : World} (h : Tab tab w) (o : Obj) : Tab tab (w.alloc o) := fun q hq => by
  rw [World.cell?_alloc_lt _ _ ⟨1, q, none⟩ (tab_lt h)]; exact h q hq
/-- the text of a number, at a table -/
def fmtI (tab : Nat → Int) (n : Int) : List UInt8 :=
  if 0 ≤ n ∧ n < 100 then Lib.decDigits n.toNat
  else if n < 0 then 45 :: (fin (nd tab n.natAbs) n.natAbs (Array.replicate (nd tab n.natAbs) 0)).toList
  else (fin (nd tab n.toNat) n.toNat (Array.replicate (nd tab n.toNat) 0)).toList
abbrev bv : UInt8 → Value := fun b => Value.int .u8 (b.toNat : Int)
theorem fin_rep (m u : Nat) : (fin m u (Array.replicate m 0)).size = m := by rw [fin_size, Array.size_replicate]

set_option maxHeartbeats 6400000 in
set_option maxRecDepth 100000 in
theorem formatInt (tab : Nat → Int) (n : Int) (h0 : -9223372036854775808 ≤ n) (h1 : n ≤ 9223372036854775807) (w : World) (htab : Tab tab w) :
    Calls Tryd.prog 40 #[.int .i64 n, .int .i64 10] w fun e w' => e = .returned (.string ⟨(fmtI tab n).toArray⟩) ∧ ∃ k os, w' = grow (w.drewN k) os := by
  by_cases hs : 0 ≤ n ∧ n < 100
  · obtain ⟨i, rfl⟩ : ∃ i : Nat, n = i := ⟨n.toNat, by omega⟩
    have hi : i < 100 := by omega
    go_enter Tryd.func40, Tryd.ntmps40
    go_wp2_with (go_at_call 41; refine (small_any i hi _).mono ?_; rintro e w' ⟨rfl, rfl⟩)
    go_ret
    refine ⟨?_, 0, #[], by simp [World.drewN_zero]⟩
    unfold fmtI
    rw [if_pos hs]
    rfl
  · by_cases hneg : n < 0
    · obtain ⟨u, rfl⟩ : ∃ u : Nat, n = -(u : Int) := ⟨n.natAbs, by omega⟩
      have hu1 : 1 ≤ u := by omega
      have hu64 : u < 18446744073709551616 := by omega
      have hF : fmtI tab (-(u : Int)) = 45 :: (fin (nd tab u) u (Array.replicate (nd tab u) 0)).toList := by
        unfold fmtI; rw [if_neg hs, if_pos hneg, show (-(u : Int)).natAbs = u by omega]
      have hnd20 : nd tab u ≤ 20 := nd_le tab u hu64
      have hwr : IntKind.u64.wrap (-IntKind.u64.wrap (-(u : Int))) = (u : Int) := by rw [IntKind.wrap_u64, IntKind.wrap_u64]; omega
      have hND := numDigits tab u hu64 (w.alloc (.cells Lib.zeros24 86)) (tab_alloc htab _)
      have hsz := fin_rep (nd tab u) u
      generalize hndu : nd tab u = N at hF hnd20 hND hsz
      have hb3 : N ≤ 23 := by omega
      have hal : Tryd.prog.arrayLen 86 = 24 := by simp [Program.arrayLen, Tryd.underlying86]
      have hsl1 : ∀ W, (Instr.sliceAt 86 (.pointer (some ⟨w.heap.size, 0, none⟩)) (some (.int .i64 1)) (some (.int .i64 (1 + (N : Int)))) none).run Tryd.prog W = .ok (.slice (some ⟨w.heap.size, 1, none⟩) N 23) W := fun W => by
        rw [run_sliceAt_array_lh W 86 ⟨w.heap.size, 0, none⟩ (by simp [Program.arrayLen, Program.elem, Tryd.underlying86]) .i64 .i64 1 (1 + (N : Int)) (by omega) (by omega) (by rw [hal]; omega)]
        go_simp
        omega
      have hH0 := Lib.holds_zero w 86 N (by omega)
      have hfmt := fmt_any w.heap.size 1 23 u (Array.replicate N 0) (w.alloc (.cells Lib.zeros24 86)) hH0 hu64 (by rw [Array.size_replicate]; omega)
      rw [Array.size_replicate] at hfmt
      generalize hdk : fin N u (Array.replicate N 0) = dk at hF hfmt hsz
      have HH0 := Lib.hid hH0
      have HF := Lib.hid hF
      have HSZ := Lib.hid hsz
      have HFMT := Lib.hid hfmt
      have HND := Lib.hid hND
      clear hH0 hal hF hsz hfmt hND hndu hdk
      go_enter Tryd.func40, Tryd.ntmps40
      go_wp2_with (first
        | (go_at_call 42; refine HND.out.mono ?_; rintro e w' ⟨rfl, rfl⟩))
      go_at_call 43
      refine HFMT.out.mono ?_
      rintro e w' ⟨rfl, k, dk', rfl, rfl⟩
      have hc0 : ((putRow bv (w.alloc (.cells Lib.zeros24 86)) w.heap.size 1 dk').drewN k).cell? ⟨w.heap.size, 0, none⟩ = some (.int .u8 0) := by
        rw [World.cell?_drewN, cell?_putRow_other _ _ _ _ _ _ (Or.inr (Or.inl (Nat.zero_lt_one))), World.cell?_alloc_new]
        exact Lib.zeros24_at 0 (by omega)
      have hf0 : ((putRow bv (w.alloc (.cells Lib.zeros24 86)) w.heap.size 1 dk').drewN k).frozen? ⟨w.heap.size, 0, none⟩ = false := by
        rw [World.frozen?_drewN, frozen?_putRow]
        exact World.frozen?_alloc_new _ _ _ _
      have hal : Tryd.prog.arrayLen 86 = 24 := by simp [Program.arrayLen, Tryd.underlying86]
      have hsl2 : ∀ W, (Instr.sliceAt 86 (.pointer (some ⟨w.heap.size, 0, none⟩)) none (some (.int .i64 (1 + (N : Int)))) none).run Tryd.prog W = .ok (.slice (some ⟨w.heap.size, 0, none⟩) (1 + N) 24) W := fun W => by
        rw [run_sliceAt_array_h W 86 ⟨w.heap.size, 0, none⟩ (by simp [Program.arrayLen, Program.elem, Tryd.underlying86]) .i64 (1 + (N : Int)) (by omega) (by rw [hal]; omega)]
        go_simp
        omega
      clear hal
      have hcv : (convert 90 9 (.slice (some ⟨w.heap.size, 0, none⟩) (1 + N) 24)).run Tryd.prog (((putRow bv (w.alloc (.cells Lib.zeros24 86)) w.heap.size 1 dk').drewN k).setCell ⟨w.heap.size, 0, none⟩ (.int .u8 45)) = .ok (.string ⟨(45 :: dk'.toList).toArray⟩) (((putRow bv (w.alloc (.cells Lib.zeros24 86)) w.heap.size 1 dk').drewN k).setCell ⟨w.heap.size, 0, none⟩ (.int .u8 45)) := by
        have h := run_convert_bytes_back (P := Tryd.prog) (((putRow bv (w.alloc (.cells Lib.zeros24 86)) w.heap.size 1 dk').drewN k).setCell ⟨w.heap.size, 0, none⟩ (.int .u8 45)) 90 9 5 ⟨w.heap.size, 0, none⟩ 24 (45 :: dk'.toList) Tryd.underlying90 Tryd.underlying5 Tryd.underlying9 (fun j hj => by
          rw [Lib.add_plain]
          cases j with
          | zero => exact World.cell?_setCell_same _ _ _ hc0
          | succ i =>
            have hi : i < dk'.size := by simpa using hj
            rw [World.cell?_setCell_other _ _ _ _ (by simp), List.getElem_cons_succ, World.cell?_drewN, show 0 + (i + 1) = 1 + i by omega]
            have := cell?_putRow bv _ w.heap.size 1 _ dk' HH0.out (by rw [HSZ.out, Array.size_replicate]) i hi
            rw [this]
            simp [hi])
        rw [List.length_cons, Array.length_toList, HSZ.out, Nat.add_comm] at h
        exact h
      go_wp2
      go_ret
      obtain ⟨os, eo⟩ := Lib.fin_neg w (.cells Lib.zeros24 86) dk' k (.int .u8 45)
      refine ⟨?_, k, os, eo⟩
      rw [HF.out]
      rfl
    · obtain ⟨u, rfl⟩ : ∃ u : Nat, n = u := ⟨n.toNat, by omega⟩
      have hu1 : 1 ≤ u := by omega
      have hu64 : u < 18446744073709551616 := by omega
      have hF : fmtI tab (u : Int) = (fin (nd tab u) u (Array.replicate (nd tab u) 0)).toList := by
        unfold fmtI; rw [if_neg hs, if_neg hneg, show (u : Int).toNat = u by omega]
      have hnd20 : nd tab u ≤ 20 := nd_le tab u hu64
      have hND := numDigits tab u hu64 (w.alloc (.cells Lib.zeros24 86)) (tab_alloc htab _)
      have hsz := fin_rep (nd tab u) u
      generalize hndu : nd tab u = N at hF hnd20 hND hsz
      have hb3 : N ≤ 23 := by omega
      have hal : Tryd.prog.arrayLen 86 = 24 := by simp [Program.arrayLen, Tryd.underlying86]
      have hsl1 : ∀ W, (Instr.sliceAt 86 (.pointer (some ⟨w.heap.size, 0, none⟩)) (some (.int .i64 1)) (some (.int .i64 (1 + (N : Int)))) none).run Tryd.prog W = .ok (.slice (some ⟨w.heap.size, 1, none⟩) N 23) W := fun W => by
        rw [run_sliceAt_array_lh W 86 ⟨w.heap.size, 0, none⟩ (by simp [Program.arrayLen, Program.elem, Tryd.underlying86]) .i64 .i64 1 (1 + (N : Int)) (by omega) (by omega) (by rw [hal]; omega)]
        go_simp
        omega
      have hH0 := Lib.holds_zero w 86 N (by omega)
      have hfmt := fmt_any w.heap.size 1 23 u (Array.replicate N 0) (w.alloc (.cells Lib.zeros24 86)) hH0 hu64 (by rw [Array.size_replicate]; omega)
      rw [Array.size_replicate] at hfmt
      generalize hdk : fin N u (Array.replicate N 0) = dk at hF hfmt hsz
      have HH0 := Lib.hid hH0
      have HF := Lib.hid hF
      have HSZ := Lib.hid hsz
      have HFMT := Lib.hid hfmt
      have HND := Lib.hid hND
      clear hH0 hal hF hsz hfmt hND hndu hdk
      go_enter Tryd.func40, Tryd.ntmps40
      go_wp2_with (first
        | (go_at_call 42; refine HND.out.mono ?_; rintro e w' ⟨rfl, rfl⟩))
      go_at_call 43
      refine HFMT.out.mono ?_
      rintro e w' ⟨rfl, k, dk', rfl, rfl⟩
      have hcv : (convert 90 9 (.slice (some ⟨w.heap.size, 1, none⟩) N 23)).run Tryd.prog ((putRow bv (w.alloc (.cells Lib.zeros24 86)) w.heap.size 1 dk').drewN k) = .ok (.string ⟨(dk'.toList).toArray⟩) ((putRow bv (w.alloc (.cells Lib.zeros24 86)) w.heap.size 1 dk').drewN k) := by
        have h := run_convert_bytes_back (P := Tryd.prog) ((putRow bv (w.alloc (.cells Lib.zeros24 86)) w.heap.size 1 dk').drewN k) 90 9 5 ⟨w.heap.size, 1, none⟩ 23 (dk'.toList) Tryd.underlying90 Tryd.underlying5 Tryd.underlying9 (fun j hj => by
          have hj' : j < dk'.size := by simpa using hj
          rw [Lib.add_plain, World.cell?_drewN]
          have := cell?_putRow bv _ w.heap.size 1 _ dk' HH0.out (by rw [HSZ.out, Array.size_replicate]) j hj'
          rw [this]
          simp [hj'])
        rw [Array.length_toList, HSZ.out] at h
        exact h
      go_wp2
      go_ret
      obtain ⟨os, eo⟩ := Lib.fin_pos w (.cells Lib.zeros24 86) dk' k
      refine ⟨?_, k, os, eo⟩
      rw [HF.out]
      rfl
end Go.Proofs.YtcaieekbalmghaaDoor
