/- the law FaultMore: the walk. -/
import Derived.Test.YtcaieekbalmghaaDoorHead
namespace Go.Proofs.YtcaieekbalmghaaDoor
open Go.RowKit Go.Extern.Stop Go.Stop Go.Extern

theorem wrap7q (e : Int) (tr : List (ByteArray × Int)) (s : ByteArray) (n : Int) (w : World) : Calls Tryd.prog 7 #[errV e tr, .string s, .int .i64 n] w fun r w' => r = .returned (errV e ((s, n) :: tr)) ∧ w' = w :=
  (wrap7 e tr s n w).mono fun _ _ h => ⟨h.1, h.2.symm⟩

theorem slice_one (g off N cb : Nat) (w : World) : (Instr.slice 23 (.slice (some ⟨g, off, none⟩) (N + 1) cb) (some (.int .i64 1)) none none).run Tryd.prog w
    = .ok (.slice (if cb = 1 then some ⟨g, off, none⟩ else some ⟨g, off + 2, none⟩) N (cb - 1)) w := by
  have hu := Tryd.underlying23
  have h := run_slice_l (P := Tryd.prog) w 23 (some ⟨g, off, none⟩) (N + 1) cb (by simp [Program.elem, hu]) .i64 1 (by omega) (by omega)
  rw [h]
  go_simp
theorem str_from (M : ByteArray) (i : Nat) (hi : i ≤ M.size) (w : World) : (Instr.slice 9 (.string M) (some (.int .i64 (i : Int))) none none).run Tryd.prog w
    = .ok (.string (M.extract i M.size)) w := by
  have hu := Tryd.underlying9
  go_simp
theorem str_to (M : ByteArray) (i : Nat) (hi : i ≤ M.size) (w : World) : (Instr.slice 9 (.string M) none (some (.int .i64 (i : Int))) none).run Tryd.prog w
    = .ok (.string (M.extract 0 i)) w := by
  have hu := Tryd.underlying9
  go_simp
theorem ext_pre (a b : ByteArray) : (a ++ b).extract 0 a.size = a := by
  apply ByteArray.ext
  rw [ByteArray.data_extract, ByteArray.data_append]
  show (a.data ++ b.data).extract 0 a.data.size = a.data
  simp
theorem ext_suf (a b : ByteArray) : (a ++ b).extract a.size (a ++ b).size = b := by
  apply ByteArray.ext
  rw [ByteArray.data_extract, ByteArray.size_append, ByteArray.data_append]
  show (a.data ++ b.data).extract a.data.size (a.data.size + b.data.size) = b.data
  apply Array.toList_inj.1
  rw [Array.toList_extract, Array.toList_append]
  show List.extract _ _ _ = _
  simp only [List.extract_eq_take_drop, ← Array.length_toList, List.drop_left]
  rw [List.take_of_length_le (by omega)]
theorem rds_one {w : World} {g off : Nat} {x : ByteArray × Int} {tr : List (ByteArray × Int)} (cb : Nat) (hcb : tr.length + 1 ≤ cb) (h : RdS w (some ⟨g, off, none⟩) (x :: tr)) : RdS w (if cb = 1 then some ⟨g, off, none⟩ else some ⟨g, off + 2, none⟩) tr := fun i hi => by
  rw [if_neg (by omega)]
  obtain ⟨b, off', ha, hlt, h1, h2⟩ := h (i + 1) (by simp; omega)
  obtain ⟨rfl, rfl⟩ : g = b ∧ off = off' := by simpa using ha
  refine ⟨g, off + 2, rfl, hlt, ?_, ?_⟩
  · rw [show off + 2 + i * 2 = off + (i + 1) * 2 by omega, h1]; rfl
  · rw [show off + 2 + i * 2 + 1 = off + (i + 1) * 2 + 1 by omega, h2]; rfl
theorem sumW_append (a b : List (ByteArray × Int)) : sumW (a ++ b) = sumW a + sumW b := by
  induction a with
  | nil => simp [sumW]
  | cons x t ih => obtain ⟨s, n⟩ := x; simp [sumW, ih]; omega
theorem sumW_reverse (a : List (ByteArray × Int)) : sumW a.reverse = sumW a := by
  induction a with
  | nil => rfl
  | cons x t ih => obtain ⟨s, n⟩ := x; rw [List.reverse_cons, sumW_append, ih]; simp [sumW]; omega
theorem errB_size (tab : Nat → Int) (e : Int) (he : i64ok e) (tr : List (ByteArray × Int)) (h : ∀ x ∈ tr, i64ok x.2) : (errB tab e tr).size ≤ 35 + sumW tr + 24 * tr.length := by
  induction tr with
  | nil =>
    have := itoaB_size tab e he
    have hc : cohB.size = 14 := rfl
    simp only [errB, ByteArray.size_append, sumW, List.length_nil, hc]; omega
  | cons x t ih =>
    obtain ⟨s, n⟩ := x
    have h1 := itoaB_size tab n (h (s, n) (by simp))
    have h2 := ih (fun y hy => h y (by simp [hy]))
    have e1 : (⟨#[32]⟩ : ByteArray).size = 1 := rfl
    have e2 : (⟨#[58, 32]⟩ : ByteArray).size = 2 := rfl
    simp only [errB, ByteArray.size_append, sumW, List.length_cons, e1, e2]; omega

set_option maxHeartbeats 1000000 in
set_option maxRecDepth 100000 in
/-- too great: the head's answer -/
theorem law_great (tab : Nat → Int) (e : Int) (a : Option Addr) (cap : Nat) (l : List (ByteArray × Int)) (sw : ByteArray) (sn : Int) (w : World) (hg : Gt w) (ht : Tab tab w)
    (hl : l.length ≤ 9223372036854775807) (hs : ∀ x ∈ l, x.1.size ≤ 9223372036854775807) (hsw : sw.size ≤ 9223372036854775807) (hr : RdS w a l)
    (h : 20000 ≤ grN 0 l ∨ 1000 < sw.size ∨ e = 0) :
    Calls Tryd.prog 3 #[.int .i64 e, .slice a l.length cap, .agg #[.string sw, .int .i64 sn]] w fun r w' => r = .returned (.bool true) ∧ Below w.heap.size w w' := by
  have HG := Lib.hid (gt_alloc hg (.cells #[.string sw, .int .i64 sn] 25))
  have HT := Lib.hid (tab_alloc ht (.cells #[.string sw, .int .i64 sn] 25))
  have HR := Lib.hid (hr.below ((Below.refl _ _).alloc (Nat.le_refl _) (.cells #[.string sw, .int .i64 sn] 25)))
  have HS := Lib.hid hs
  have HB0 := Lib.hid ((Below.refl w.heap.size w).alloc (Nat.le_refl _) (.cells #[.string sw, .int .i64 sn] 25))
  have HBL := Lib.hid (show Blk (w.alloc (.cells #[.string sw, .int .i64 sn] 25)) w.heap.size 25 #[.string sw, .int .i64 sn] from heap_alloc_new _ _)
  clear hg ht hr hs
  have HH := Lib.hid h
  clear h
  by_cases h1 : 20000 ≤ grN 0 l
  · have hd : decide (20000 ≤ grN 0 l) = true := decide_eq_true h1
    have HD := Lib.hid hd
    clear h1 hd
    go_enter Tryd.func3, Tryd.ntmps3
    go_wp2_with fail
    refine (head4 tab _ HG.out HT.out).mono ?_
    rintro r w1 ⟨rfl, hb1⟩
    have HB1 := Lib.hid hb1
    clear hb1
    go_wp2_with fail
    refine (great5 a cap l w1 hl HS.out (HR.out.below HB1.out)).mono ?_
    rintro r w' ⟨rfl, rfl⟩
    rw [HD.out]
    go_wp2_with fail
    go_ret
    exact ⟨rfl, HB0.out.trans (HB1.out.mono (by simp))⟩
  · have hd : decide (20000 ≤ grN 0 l) = false := decide_eq_false h1
    have HD := Lib.hid hd
    clear h1 hd
    by_cases h2 : 1000 < sw.size
    · go_enter Tryd.func3, Tryd.ntmps3
      go_wp2_with fail
      refine (head4 tab _ HG.out HT.out).mono ?_
      rintro r w1 ⟨rfl, hb1⟩
      have HB1 := Lib.hid hb1
      have c0 := (HBL.out.below hb1 HBL.out.lt).cell 0
      simp only [List.getElem?_toArray, List.getElem?_cons_zero] at c0
      clear hb1
      go_wp2_with fail
      refine (great5 a cap l w1 hl HS.out (HR.out.below HB1.out)).mono ?_
      rintro r w' ⟨rfl, rfl⟩
      rw [HD.out]
      go_wp2_with fail
      go_ret
      exact ⟨rfl, HB0.out.trans (HB1.out.mono (by simp))⟩
    · have h3 : e = 0 := by
        rcases HH.out with h | h | h
        · have hdd := HD.out; rw [decide_eq_true h] at hdd; cases hdd
        · exact absurd h h2
        · exact h
      subst h3
      go_enter Tryd.func3, Tryd.ntmps3
      go_wp2_with fail
      refine (head4 tab _ HG.out HT.out).mono ?_
      rintro r w1 ⟨rfl, hb1⟩
      have HB1 := Lib.hid hb1
      have c0 := (HBL.out.below hb1 HBL.out.lt).cell 0
      simp only [List.getElem?_toArray, List.getElem?_cons_zero] at c0
      clear hb1
      go_wp2_with fail
      refine (great5 a cap l w1 hl HS.out (HR.out.below HB1.out)).mono ?_
      rintro r w' ⟨rfl, rfl⟩
      rw [HD.out]
      go_wp2_with fail
      go_ret
      exact ⟨rfl, HB0.out.trans (HB1.out.mono (by simp))⟩
end Go.Proofs.YtcaieekbalmghaaDoor
