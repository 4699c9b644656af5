/- the law's small functions: great, cohortref01.Same, head. -/
import Derived.Test.YtcaieekbalmghaaDoorTrail
import Derived.Deep.QuietTactic
import Derived.BigQuiet
import Derived.WalkSpells
namespace Go.Proofs.YtcaieekbalmghaaDoor
open Go.RowKit Go.Extern.Stop Go.Stop Go.Extern

/-- the steps l lie at the slice value v -/
def RdS (w : World) (a : Option Addr) (l : List (ByteArray × Int)) : Prop :=
  ∀ i (h : i < l.length), ∃ b off, a = some ⟨b, off, none⟩ ∧ b < w.heap.size ∧ w.cell? ⟨b, off + i * 2, none⟩ = some (.string l[i].1) ∧ w.cell? ⟨b, off + i * 2 + 1, none⟩ = some (.int .i64 l[i].2)
theorem RdS.below {w w' : World} {a : Option Addr} {l : List (ByteArray × Int)} (h : RdS w a l) (hb : Below w.heap.size w w') : RdS w' a l := fun i hi => by
  obtain ⟨b, off, ha, hlt, h1, h2⟩ := h i hi
  exact ⟨b, off, ha, Nat.lt_of_lt_of_le hlt hb.size, by rw [hb.cell (p := ⟨b, off + i * 2, none⟩) hlt]; exact h1, by rw [hb.cell (p := ⟨b, off + i * 2 + 1, none⟩) hlt]; exact h2⟩

def grN (n : Nat) : List (ByteArray × Int) → Nat
  | [] => n
  | (s, _) :: t => if n < 20000 then grN (n + 10 + min s.size 20000) t else n
def sumW : List (ByteArray × Int) → Nat
  | [] => 0
  | (s, _) :: t => s.size + sumW t
theorem grN_ge (l : List (ByteArray × Int)) : ∀ n, n ≤ grN n l := by
  induction l with
  | nil => intro n; exact Nat.le_refl _
  | cons x t ih =>
    intro n
    obtain ⟨s, k⟩ := x
    unfold grN
    split
    · have := ih (n + 10 + min s.size 20000); omega
    · exact Nat.le_refl _
theorem grN_small (l : List (ByteArray × Int)) : ∀ n, grN n l < 20000 → n + 10 * l.length + sumW l < 20000 := by
  induction l with
  | nil => intro n h; simpa [grN, sumW] using h
  | cons x t ih =>
    intro n h
    obtain ⟨s, k⟩ := x
    unfold grN at h
    split at h
    · have h1 := ih _ h
      have h2 := grN_ge t (n + 10 + min s.size 20000)
      simp only [List.length_cons, sumW]
      have : min s.size 20000 = s.size := by omega
      omega
    · omega
theorem grN_step (n : Nat) (l : List (ByteArray × Int)) (k : Nat) (h : k < l.length) (hn : n < 20000) : grN n (l.drop k) = grN (n + 10 + min l[k].1.size 20000) (l.drop (k + 1)) := by
  rw [List.drop_eq_getElem_cons h]
  generalize l[k] = x
  obtain ⟨s, j⟩ := x
  simp only [grN, if_pos hn]

set_option maxHeartbeats 1000000 in
set_option maxRecDepth 100000 in
theorem great5 (a : Option Addr) (cap : Nat) (l : List (ByteArray × Int)) (w : World) (hl : l.length ≤ 9223372036854775807) (hs : ∀ x ∈ l, x.1.size ≤ 9223372036854775807) (hr : RdS w a l) :
    Calls Tryd.prog 5 #[.slice a l.length cap] w fun r w' => r = .returned (.bool (decide (20000 ≤ grN 0 l))) ∧ w = w' := by
  have HR := Lib.hid hr
  have HS := Lib.hid hs
  clear hr hs
  go_enter Tryd.func5, Tryd.ntmps5
  go_wp2
  go_loop [3, 4] (fun vn vi => ∃ n k : Nat, vn = .int .i64 n ∧ vi = .int .i64 k ∧ k ≤ l.length ∧ n ≤ 50000 ∧ Hid (grN n (l.drop k) = grN 0 l)) (fun _ vi => l.length - (intOf vi).toNat)
  case atStart => exact ⟨0, 0, rfl, rfl, Nat.zero_le _, by omega, rfl⟩
  case round =>
    obtain ⟨n, k, rfl, rfl, hk, hn, HG⟩ := hrel
    by_cases hlt : k < l.length
    · by_cases hn2 : n < 20000
      · obtain ⟨b, off, ha, hbl, c0, c1⟩ := HR.out k hlt
        subst ha
        have hsz := HS.out _ (List.getElem_mem hlt)
        have hg := grN_step n l k hlt hn2
        have HG2 := Lib.hid hg
        clear hg
        generalize hsk : l[k].1 = sk at c0 hsz HG2
        generalize hnk : l[k].2 = nk at c1
        clear hsk hnk
        go_wp2
        go_round
        case rel => exact ⟨n + 10 + min sk.size 20000, k + 1, by go_num, by go_num, by omega, by omega, HG2.out.symm.trans HG.out⟩
        case measure => simp [intOf]; omega
      · go_wp2
        go_ret
        have hg : grN n (l.drop k) = grN 0 l := HG.out
        have : ¬ grN 0 l < 20000 := by have := grN_ge (l.drop k) n; omega
        exact ⟨congrArg (fun b => Ending.returned (.bool b)) (decide_eq_true (by omega : 20000 ≤ grN 0 l)).symm, rfl⟩
    · have hkl : k = l.length := by omega
      have hg : n = grN 0 l := by rw [← HG.out, List.drop_of_length_le (by omega)]; rfl
      have HK := Lib.hid hkl
      have HG3 := Lib.hid hg
      clear hkl hg
      go_wp2
      all_goals go_ret
      all_goals exact ⟨by rw [← HG3.out]; simp; omega, rfl⟩

theorem stepCells_at (tr : List (ByteArray × Int)) : ∀ i (h : i < tr.length), (stepCells tr)[i * 2]? = some (.string tr[i].1) ∧ (stepCells tr)[i * 2 + 1]? = some (.int .i64 tr[i].2) := by
  induction tr with
  | nil => intro i h; simp at h
  | cons x t ih =>
    intro i h
    obtain ⟨s, n⟩ := x
    cases i with
    | zero => exact ⟨rfl, rfl⟩
    | succ i =>
      have := ih i (by simpa using h)
      rw [show (i + 1) * 2 = i * 2 + 1 + 1 by omega]
      exact this
/-- the steps l lie at the slice value v, as a row of the call's own or a part of it -/
theorem own_rds {w : World} {base : Nat} {v : Value} {tr : List (ByteArray × Int)} (h : w.ownsRow base 25 2 v tr.length (stepCells tr)) :
    ∃ a cap, v = .slice a tr.length cap ∧ RdS w a tr := by
  have hlt := h.lt
  have hcells := fun g hg => h.cells (g := g) hg
  rcases h.2 with ⟨rfl, h0⟩ | ⟨g, cap, cur, rfl, _⟩
  · exact ⟨none, 0, by rw [h0], fun i hi => absurd hi (by omega)⟩
  · refine ⟨_, cap, rfl, fun i hi => ⟨g, 0, rfl, (hlt g rfl).2, ?_, ?_⟩⟩
    · have := hcells g rfl (i * 2) _ (stepCells_at tr i hi).1
      rw [Lib.add_plain] at this; exact this
    · have := hcells g rfl (i * 2 + 1) _ (stepCells_at tr i hi).2
      rw [Lib.add_plain] at this; exact this
theorem below_drewN {B : Nat} {w w' : World} (h : Below B w w') (n : Nat) : Below B w (w'.drewN n) := ⟨h.os, h.tape, h.output, h.size, h.block⟩
/-- the steps behind the first -/
theorem rds_tail {w : World} {g : Nat} {x : ByteArray × Int} {tr : List (ByteArray × Int)} (h : RdS w (some ⟨g, 0, none⟩) (x :: tr)) : RdS w (some ⟨g, 2, none⟩) tr := fun i hi => by
  obtain ⟨b, off, ha, hlt, h1, h2⟩ := h (i + 1) (by simp; omega)
  obtain ⟨rfl, rfl⟩ : g = b ∧ 0 = off := by simpa using ha
  refine ⟨g, 2, rfl, hlt, ?_, ?_⟩
  · rw [show 2 + i * 2 = 0 + (i + 1) * 2 by omega, h1]; rfl
  · rw [show 2 + i * 2 + 1 = 0 + (i + 1) * 2 + 1 by omega, h2]; rfl

set_option maxHeartbeats 1000000 in
set_option maxRecDepth 100000 in
theorem same10 (a b : Option Addr) (ca cb : Nat) (l : List (ByteArray × Int)) (w : World) (hl : l.length ≤ 140737488351232) (ha : RdS w a l) (hb : RdS w b l) :
    Calls Tryd.prog 10 #[.slice a l.length ca, .slice b l.length cb] w fun r w' => r = .returned (.bool true) ∧ Below w.heap.size w w' := by
  have HA := Lib.hid ha
  have HB := Lib.hid hb
  clear ha hb
  go_enter Tryd.func10, Tryd.ntmps10
  go_wp2
  go_loopw [5] (fun vi wr => ∃ k : Nat, vi = .int .i64 k ∧ k ≤ l.length ∧ Hid (Below w.heap.size w wr)) (fun vi _ => l.length - (intOf vi).toNat)
  case atStart => exact ⟨0, rfl, Nat.zero_le _, Below.refl _ _⟩
  case round =>
    obtain ⟨k, rfl, hk, HBE⟩ := hrel
    by_cases hlt : k < l.length
    · obtain ⟨b1, off1, ha1, hbl1, c0, c1⟩ := (HA.out.below HBE.out) k hlt
      obtain ⟨b2, off2, ha2, hbl2, d0, d1⟩ := (HB.out.below HBE.out) k hlt
      subst ha1
      subst ha2
      generalize l[k].1 = sk at c0 d0
      generalize l[k].2 = nk at c1 d1
      go_wp2
      go_quiet (fail)
      go_wp2
      go_roundw
      case rel => exact ⟨k + 1, by go_num, by omega, below_drewN HBE.out _⟩
      case measure => simp [intOf]; omega
    · go_wp2
      go_ret
      exact ⟨rfl, HBE.out⟩
end Go.Proofs.YtcaieekbalmghaaDoor
