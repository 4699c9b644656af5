/- strconv.Itoa whatever the table of powers of ten holds: small pieces. -/
import Derived.Test.YtcaieekbalmghaaDoorFmt
import Derived.Test.YtcaieekbalmghaaDoorLen
import Derived.Lib.BitFns
import Derived.Lib.Strings
import Derived.Lib.ItoaNum
import Derived.Lib.ItoaMem
namespace Go.Proofs.YtcaieekbalmghaaDoor
open Go.RowKit Go.Sort Go.Lib

set_option maxRecDepth 100000 in
theorem log10 (x : Nat) (h : x ≤ 64) (w : World) :
    Calls Tryd.prog 45 #[.int .i64 x] w fun e w' => e = .returned (.int .i64 (Lib.l10 x)) ∧ w' = w := by
  go_enter Tryd.func45, Tryd.ntmps45
  go_wp2
  go_ret
  refine ⟨?_, rfl⟩
  (congr 2) <;> (unfold Lib.l10; omega)

set_option maxRecDepth 100000 in
theorem bool2 (b : Bool) (w : World) :
    Calls Tryd.prog 47 #[.bool b] w fun e w' => e = .returned (.int .i64 (if b then 1 else 0)) ∧ w' = w := by
  cases b <;> (
    go_enter Tryd.func47, Tryd.ntmps47
    go_wp2
    go_ret
    exact ⟨rfl, rfl⟩)

theorem small_ba (x : ByteArray) (l : List UInt8) (h : x.data.toList = l) : x = ⟨l.toArray⟩ := by
  subst h
  cases x
  simp

set_option maxHeartbeats 2000000 in
set_option maxRecDepth 100000 in
theorem small_any (i : Nat) (h : i < 100) (w : World) :
    Calls Tryd.prog 41 #[.int .i64 i] w fun e w' => e = .returned (.string ⟨(Lib.decDigits i).toArray⟩) ∧ w' = w := by
  go_enter Tryd.func41, Tryd.ntmps41
  go_name_bytes_deep 45 SM hSM
  have eSM : SM = Lib.smalls := by rw [← hSM]; decide +kernel
  subst eSM
  clear hSM
  go_name_bytes_deep 30 DG hDG
  have eDG : DG = Lib.digits36 := by rw [← hDG]; decide +kernel
  subst eDG
  clear hDG
  by_cases h10 : i < 10
  · have hsl : ∀ w, (Instr.slice 9 (.string Lib.digits36) (some (.int .i64 (i : Int))) (some (.int .i64 ((i : Int) + 1))) none).run Tryd.prog w = .ok (.string (Lib.digits36.extract i (i + 1))) w := fun w => by
      rw [run_slice_string w 9 Lib.digits36 .i64 .i64 _ _ Tryd.underlying9 (by omega) (by omega) (by rw [Lib.digits36_size]; omega), show ((i : Int)).toNat = i by omega, show ((i : Int) + 1).toNat = i + 1 by omega]
    go_wp2
    go_ret
    refine ⟨?_, rfl⟩
    show Ending.returned (Value.string (Lib.digits36.extract i (i + 1))) = _
    rw [small_ba (Lib.digits36.extract i (i + 1)) (Lib.decDigits i) (by rw [Lib.extract_data]; exact Lib.digits36_piece h10)]
  · have hsl : ∀ w, (Instr.slice 9 (.string Lib.smalls) (some (.int .i64 ((i : Int) * 2))) (some (.int .i64 ((i : Int) * 2 + 2))) none).run Tryd.prog w = .ok (.string (Lib.smalls.extract (i * 2) (i * 2 + 2))) w := fun w => by
      rw [run_slice_string w 9 Lib.smalls .i64 .i64 _ _ Tryd.underlying9 (by omega) (by omega) (by rw [Lib.smalls_size]; omega), show ((i : Int) * 2).toNat = i * 2 by omega, show ((i : Int) * 2 + 2).toNat = i * 2 + 2 by omega]
    go_wp2
    go_ret
    refine ⟨?_, rfl⟩
    show Ending.returned (Value.string (Lib.smalls.extract (i * 2) (i * 2 + 2))) = _
    rw [small_ba (Lib.smalls.extract (i * 2) (i * 2 + 2)) (Lib.decDigits i) (by rw [Lib.extract_data]; exact Lib.smalls_piece h10 h)]

/-- how many places numDigits says, at a table -/
def nd (tab : Nat → Int) (u : Nat) : Nat := Lib.l10 (Lib.bitLen u) + (if tab (Lib.l10 (Lib.bitLen u)) ≤ (u : Int) then 1 else 0)
theorem nd_le (tab : Nat → Int) (u : Nat) (h2 : u < 18446744073709551616) : nd tab u ≤ 20 := by
  have hL : Lib.bitLen u ≤ 64 := Lib.bitLen_le u 64 (Nat.le_refl _) h2
  have : Lib.l10 (Lib.bitLen u) ≤ 19 := by unfold Lib.l10; omega
  unfold nd; split <;> omega
/-- the table's cells: 20 numbers -/
def Tab (tab : Nat → Int) (w : World) : Prop := ∀ q, q < 20 → w.cell? ⟨1, q, none⟩ = some (.int .u64 (tab q))

set_option maxHeartbeats 2000000 in
set_option maxRecDepth 100000 in
theorem numDigits (tab : Nat → Int) (u : Nat) (h2 : u < 18446744073709551616) (w : World) (ht : Tab tab w) :
    Calls Tryd.prog 42 #[.int .u64 u] w fun e w' => e = .returned (.int .i64 (nd tab u)) ∧ w' = w := by
  have hL : Lib.bitLen u ≤ 64 := Lib.bitLen_le u 64 (Nat.le_refl _) h2
  have h19 : Lib.l10 (Lib.bitLen u) < 20 := by unfold Lib.l10; omega
  have hcell := ht _ h19
  have hnd : nd tab u = Lib.l10 (Lib.bitLen u) + (if tab (Lib.l10 (Lib.bitLen u)) ≤ (u : Int) then 1 else 0) := rfl
  have hto : ((u : Int)).toNat = u := by omega
  generalize hq : Lib.l10 (Lib.bitLen u) = q at hnd h19 hcell
  generalize hT : tab q = T at hnd hcell
  have Hnd := Lib.hid hnd
  clear hnd hT ht
  go_enter Tryd.func42, Tryd.ntmps42
  go_wp2_with (first
    | (go_at_call 46; refine (len64 _ _ (by omega) (by omega)).mono ?_; rintro e w' ⟨rfl, rfl⟩)
    | (go_at_call 45; refine (log10 _ (by first | exact hL | (rw [hto]; exact hL)) _).mono ?_; rintro e w' ⟨rfl, rfl⟩)
    | (go_at_call 47; refine (bool2 _ _).mono ?_; rintro e w' ⟨rfl, rfl⟩))
  all_goals go_ret
  all_goals (
    refine ⟨?_, rfl⟩
    have hnd := Hnd.out
    congr 2
    split at hnd <;> simp_all <;> omega)
end Go.Proofs.YtcaieekbalmghaaDoor
