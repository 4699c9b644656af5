/- internal/strconv.formatBase10 at every length of the row, whatever the number: what it leaves is a function of the number, the length and the row. -/
import Derived.Test.YtcaieekbalmghaaDoorProg
import Derived.Lib.ItoaWalk
import Derived.Lib.Walk
import Derived.WalkKit
import Derived.RegionTactic
import Derived.BigCall
import Derived.BigGuard
import Derived.CellFam
namespace Go.Proofs.YtcaieekbalmghaaDoor
open Go.RowKit Go.Sort Go.Lib

/-- two digits at m, m + 1 -/
def p2 (dk : Array UInt8) (m x : Nat) : Array UInt8 := (dk.setIfInBounds (m + 1) (sm (x % 100 * 2 + 1))).setIfInBounds m (sm (x % 100 * 2))
theorem p2_size (dk : Array UInt8) (m x : Nat) : (p2 dk m x).size = dk.size := by simp [p2]
def p1 (dk : Array UInt8) (y : Nat) : Array UInt8 := dk.setIfInBounds 0 (UInt8.ofNat (48 + y))
/-- the tail: fewer than eight places -/
def tl : Nat → Nat → Array UInt8 → Array UInt8
  | 0, _, dk => dk
  | 1, y, dk => p1 dk y
  | 2, y, dk => p2 dk 0 y
  | 3, y, dk => p1 (p2 dk 1 y) (y / 100)
  | 4, y, dk => p2 (p2 dk 2 y) 0 (y / 100)
  | 5, y, dk => p1 (p2 (p2 dk 3 y) 1 (y / 100)) (y / 100 / 100)
  | 6, y, dk => p2 (p2 (p2 dk 4 y) 2 (y / 100)) 0 (y / 100 / 100)
  | _, y, dk => p1 (p2 (p2 (p2 dk 5 y) 3 (y / 100)) 1 (y / 100 / 100)) (y / 100 / 100 / 100)
def r8 (dk : Array UInt8) (m v : Nat) : Array UInt8 := p2 (p2 (p2 (p2 dk (m + 6) v) (m + 4) (v / 100)) (m + 2) (v / 100 / 100)) m (v / 100 / 100 / 100)
/-- what formatBase10 leaves -/
def fin : Nat → Nat → Array UInt8 → Array UInt8
  | m + 8, v, dk => fin m (v / 100000000) (r8 dk m v)
  | m, v, dk => tl m (v % 4294967296) dk
theorem fin8 (m v : Nat) (dk : Array UInt8) : fin (m + 8) v dk = fin m (v / 100000000) (r8 dk m v) := by rw [fin]
theorem fin_lt (m v : Nat) (dk : Array UInt8) (h : m < 8) : fin m v dk = tl m (v % 4294967296) dk := by
  rcases (show m = 0 ∨ m = 1 ∨ m = 2 ∨ m = 3 ∨ m = 4 ∨ m = 5 ∨ m = 6 ∨ m = 7 by omega) with rfl | rfl | rfl | rfl | rfl | rfl | rfl | rfl <;> rfl
theorem r8_size (dk : Array UInt8) (m v : Nat) : (r8 dk m v).size = dk.size := by simp [r8, p2_size]
theorem tl_size (m y : Nat) (dk : Array UInt8) : (tl m y dk).size = dk.size := by unfold tl; split <;> simp [p1, p2_size]
theorem fin_size (m : Nat) : ∀ (v : Nat) (dk : Array UInt8), (fin m v dk).size = dk.size := by
  induction m using Nat.strongRecOn with
  | _ m ih =>
    intro v dk
    by_cases h : m < 8
    · rw [fin_lt _ _ _ h, tl_size]
    · obtain ⟨k, rfl⟩ : ∃ k, m = k + 8 := ⟨m - 8, by omega⟩
      rw [fin8, ih k (by omega), r8_size]
/-- the loop's relation -/
structure FI (D : Nat) (F : Array UInt8) (u nd v : Nat) (dk : Array UInt8) : Prop where
  le : nd ≤ D
  size : dk.size = D
  vle : v ≤ u
  fin : fin nd v dk = F

theorem cv32 (v y : Nat) (h : y = v % 4294967296) (w : World) : (convert 87 76 (.int .u64 (v : Int))).run Tryd.prog w = .ok (.int .u32 (y : Int)) w := by
  have e : (y : Int) = IntKind.u32.wrap (v : Int) := by rw [IntKind.wrap_u32]; omega
  rw [e]
  have h1 := Tryd.underlying87
  have h2 := Tryd.underlying76
  go_simp

set_option maxHeartbeats 12800000 in
set_option maxRecDepth 100000 in
theorem fmt_any (blk off cap : Nat) (u : Nat) (d : Array UInt8) (w : World) (hH : Holds (fun (b : UInt8) => Value.int .u8 (b.toNat : Int)) w blk off d) (hu64 : u < 18446744073709551616) (hsz : d.size < 4611686018427387904) :
    Calls Tryd.prog 43 #[.slice (some ⟨blk, off, none⟩) d.size cap, .int .u64 u] w fun e w' =>
      e = .returned (.tuple #[]) ∧ ∃ (n : Nat) (dk : Array UInt8), w' = (putRow (fun (b : UInt8) => Value.int .u8 (b.toNat : Int)) w blk off dk).drewN n ∧ dk = fin d.size u d := by
  have HF := Lib.hid (rfl : fin d.size u d = fin d.size u d)
  generalize hF : fin d.size u d = F
  have HFF := Lib.hid hF
  clear hF HF
  go_enter Tryd.func43, Tryd.ntmps43
  go_name_bytes SM hSM
  have eSM : SM = Lib.smalls := by rw [← hSM]; decide +kernel
  subst eSM
  clear hSM
  go_wp2
  go_loopw [1, 4] (fun vu vn wr => ∃ (nd v n : Nat) (dk : Array UInt8), vu = .int .u64 v ∧ vn = .int .i64 nd ∧ wr = (putRow (fun (b : UInt8) => Value.int .u8 (b.toNat : Int)) w blk off dk).drewN n ∧ Hid (FI d.size F u nd v dk)) (fun _ vn _ => (RowKit.intOf vn).toNat)
  case atStart => exact ⟨d.size, u, 0, d, rfl, rfl, (putRow_self _ _ _ _ _ hH).symm, ⟨Nat.le_refl _, rfl, Nat.le_refl _, HFF.out⟩⟩
  case round =>
    obtain ⟨nd, v, n, dk0, rfl, rfl, hw0, HI0⟩ := hrel
    rename World => W0
    have AH := Lib.hid hH
    clear hH
    have hv64 : v < 18446744073709551616 := by have := HI0.out.vle; omega
    have hs0 : dk0.size = d.size := HI0.out.size
    have hH0 : Holds (fun (b : UInt8) => Value.int .u8 (b.toNat : Int)) W0 blk off dk0 := by rw [hw0]; exact holds_putRow _ w blk off d dk0 AH.out hs0
    obtain ⟨G0, hG0⟩ : ∃ G : Nat → Int, ∀ t, G t = (dk0[t]!.toNat : Int) := ⟨_, fun _ => rfl⟩
    have hc0 : ∀ t, t < d.size → W0.cell? ⟨blk, off + t, none⟩ = some (.int .u8 (G0 t)) := fun t ht => by rw [hG0]; exact (hH0 t (by omega)).1
    have hf0 : ∀ t, t < d.size → W0.frozen? ⟨blk, off + t, none⟩ = false := fun t ht => (hH0 t (by omega)).2
    have AW0 := Lib.hid hw0
    clear hw0 hG0 hH0
    by_cases h8 : 8 ≤ nd
    · obtain ⟨m, rfl⟩ : ∃ m, nd = m + 8 := ⟨nd - 8, by omega⟩
      have hle0 : m + 8 ≤ d.size := HI0.out.le
      go_wp2
      go_name_slot 9 x0 hx0
      have hxe0 : x0 = ((v % 100 * 2 : Nat) : Int) := by omega
      have hXa0 : ∀ w, (Instr.index 9 (.string Lib.smalls) (.int .u32 (x0 + 1))).run Tryd.prog w = .ok (.int .u8 ((sm (v % 100 * 2 + 1)).toNat : Int)) w := idx_smalls 9 Tryd.underlying9 .u32 _ _ (by omega) (by omega)
      have hXb0 : ∀ w, (Instr.index 9 (.string Lib.smalls) (.int .u32 x0)).run Tryd.prog w = .ok (.int .u8 ((sm (v % 100 * 2)).toNat : Int)) w := idx_smalls 9 Tryd.underlying9 .u32 _ _ (by omega) (by omega)
      have hlo0 : 0 ≤ x0 := by omega
      have hhi0 : x0 ≤ 198 := by omega
      clear hx0 hxe0
      go_region
      go_wp2
      go_name_world W1 hW1
      have hw1 : W1 = (putRow (fun (b : UInt8) => Value.int .u8 (b.toNat : Int)) w blk off (p2 dk0 (m + 6) (v))).drewN (n + 0 + 1) := by rw [← hW1]; exact (by rw [AW0.out]; exact store2_world w blk off dk0 (n + 0) (m + 6 + 1) (m + 6) _ _ (by omega) (by omega))
      have hs1 : (p2 dk0 (m + 6) (v)).size = d.size := by rw [p2_size]; exact hs0
      obtain ⟨dk1, hdk1⟩ : ∃ z, z = p2 dk0 (m + 6) (v) := ⟨_, rfl⟩
      rw [← hdk1] at hw1 hs1
      have HD1 := Lib.hid hdk1
      clear hW1 hdk1 hc0 hf0 AW0 hXa0 hXb0
      have hH1 : Holds (fun (b : UInt8) => Value.int .u8 (b.toNat : Int)) W1 blk off dk1 := by rw [hw1]; exact holds_putRow _ w blk off d dk1 AH.out hs1
      obtain ⟨G1, hG1⟩ : ∃ G : Nat → Int, ∀ t, G t = (dk1[t]!.toNat : Int) := ⟨_, fun _ => rfl⟩
      have hc1 : ∀ t, t < d.size → W1.cell? ⟨blk, off + t, none⟩ = some (.int .u8 (G1 t)) := fun t ht => by rw [hG1]; exact (hH1 t (by omega)).1
      have hf1 : ∀ t, t < d.size → W1.frozen? ⟨blk, off + t, none⟩ = false := fun t ht => (hH1 t (by omega)).2
      have AW1 := Lib.hid hw1
      clear hw1 hG1 hH1
      go_name_slot 8 x1 hx1
      have hxe1 : x1 = ((v / 100 % 100 * 2 : Nat) : Int) := by omega
      have hXa1 : ∀ w, (Instr.index 9 (.string Lib.smalls) (.int .u32 (x1 + 1))).run Tryd.prog w = .ok (.int .u8 ((sm (v / 100 % 100 * 2 + 1)).toNat : Int)) w := idx_smalls 9 Tryd.underlying9 .u32 _ _ (by omega) (by omega)
      have hXb1 : ∀ w, (Instr.index 9 (.string Lib.smalls) (.int .u32 x1)).run Tryd.prog w = .ok (.int .u8 ((sm (v / 100 % 100 * 2)).toNat : Int)) w := idx_smalls 9 Tryd.underlying9 .u32 _ _ (by omega) (by omega)
      have hlo1 : 0 ≤ x1 := by omega
      have hhi1 : x1 ≤ 198 := by omega
      clear hx1 hxe1
      go_region
      go_wp2
      go_name_world W2 hW2
      have hw2 : W2 = (putRow (fun (b : UInt8) => Value.int .u8 (b.toNat : Int)) w blk off (p2 dk1 (m + 4) (v / 100))).drewN (n + 1 + 1) := by rw [← hW2]; exact (by rw [AW1.out]; exact store2_world w blk off dk1 (n + 1) (m + 4 + 1) (m + 4) _ _ (by omega) (by omega))
      have hs2 : (p2 dk1 (m + 4) (v / 100)).size = d.size := by rw [p2_size]; exact hs1
      obtain ⟨dk2, hdk2⟩ : ∃ z, z = p2 dk1 (m + 4) (v / 100) := ⟨_, rfl⟩
      rw [← hdk2] at hw2 hs2
      have HD2 := Lib.hid hdk2
      clear hW2 hdk2 hc1 hf1 AW1 hXa1 hXb1
      have hH2 : Holds (fun (b : UInt8) => Value.int .u8 (b.toNat : Int)) W2 blk off dk2 := by rw [hw2]; exact holds_putRow _ w blk off d dk2 AH.out hs2
      obtain ⟨G2, hG2⟩ : ∃ G : Nat → Int, ∀ t, G t = (dk2[t]!.toNat : Int) := ⟨_, fun _ => rfl⟩
      have hc2 : ∀ t, t < d.size → W2.cell? ⟨blk, off + t, none⟩ = some (.int .u8 (G2 t)) := fun t ht => by rw [hG2]; exact (hH2 t (by omega)).1
      have hf2 : ∀ t, t < d.size → W2.frozen? ⟨blk, off + t, none⟩ = false := fun t ht => (hH2 t (by omega)).2
      have AW2 := Lib.hid hw2
      clear hw2 hG2 hH2
      go_name_slot 11 x2 hx2
      have hxe2 : x2 = ((v / 100 / 100 % 100 * 2 : Nat) : Int) := by omega
      have hXa2 : ∀ w, (Instr.index 9 (.string Lib.smalls) (.int .u32 (x2 + 1))).run Tryd.prog w = .ok (.int .u8 ((sm (v / 100 / 100 % 100 * 2 + 1)).toNat : Int)) w := idx_smalls 9 Tryd.underlying9 .u32 _ _ (by omega) (by omega)
      have hXb2 : ∀ w, (Instr.index 9 (.string Lib.smalls) (.int .u32 x2)).run Tryd.prog w = .ok (.int .u8 ((sm (v / 100 / 100 % 100 * 2)).toNat : Int)) w := idx_smalls 9 Tryd.underlying9 .u32 _ _ (by omega) (by omega)
      have hlo2 : 0 ≤ x2 := by omega
      have hhi2 : x2 ≤ 198 := by omega
      clear hx2 hxe2
      go_region
      go_wp2
      go_name_world W3 hW3
      have hw3 : W3 = (putRow (fun (b : UInt8) => Value.int .u8 (b.toNat : Int)) w blk off (p2 dk2 (m + 2) (v / 100 / 100))).drewN (n + 2 + 1) := by rw [← hW3]; exact (by rw [AW2.out]; exact store2_world w blk off dk2 (n + 2) (m + 2 + 1) (m + 2) _ _ (by omega) (by omega))
      have hs3 : (p2 dk2 (m + 2) (v / 100 / 100)).size = d.size := by rw [p2_size]; exact hs2
      obtain ⟨dk3, hdk3⟩ : ∃ z, z = p2 dk2 (m + 2) (v / 100 / 100) := ⟨_, rfl⟩
      rw [← hdk3] at hw3 hs3
      have HD3 := Lib.hid hdk3
      clear hW3 hdk3 hc2 hf2 AW2 hXa2 hXb2
      have hH3 : Holds (fun (b : UInt8) => Value.int .u8 (b.toNat : Int)) W3 blk off dk3 := by rw [hw3]; exact holds_putRow _ w blk off d dk3 AH.out hs3
      obtain ⟨G3, hG3⟩ : ∃ G : Nat → Int, ∀ t, G t = (dk3[t]!.toNat : Int) := ⟨_, fun _ => rfl⟩
      have hc3 : ∀ t, t < d.size → W3.cell? ⟨blk, off + t, none⟩ = some (.int .u8 (G3 t)) := fun t ht => by rw [hG3]; exact (hH3 t (by omega)).1
      have hf3 : ∀ t, t < d.size → W3.frozen? ⟨blk, off + t, none⟩ = false := fun t ht => (hH3 t (by omega)).2
      have AW3 := Lib.hid hw3
      clear hw3 hG3 hH3
      go_name_slot 10 x3 hx3
      have hxe3 : x3 = ((v / 100 / 100 / 100 % 100 * 2 : Nat) : Int) := by omega
      have hXa3 : ∀ w, (Instr.index 9 (.string Lib.smalls) (.int .u32 (x3 + 1))).run Tryd.prog w = .ok (.int .u8 ((sm (v / 100 / 100 / 100 % 100 * 2 + 1)).toNat : Int)) w := idx_smalls 9 Tryd.underlying9 .u32 _ _ (by omega) (by omega)
      have hXb3 : ∀ w, (Instr.index 9 (.string Lib.smalls) (.int .u32 x3)).run Tryd.prog w = .ok (.int .u8 ((sm (v / 100 / 100 / 100 % 100 * 2)).toNat : Int)) w := idx_smalls 9 Tryd.underlying9 .u32 _ _ (by omega) (by omega)
      have hlo3 : 0 ≤ x3 := by omega
      have hhi3 : x3 ≤ 198 := by omega
      clear hx3 hxe3
      go_region
      go_wp2
      go_roundw
      case rel =>
        refine ⟨m, v / 100000000, n + 3 + 1, p2 dk3 m (v / 100 / 100 / 100), by first | go_num | (congr 1; omega), by first | go_num | (congr 1; omega), by rw [AW3.out]; exact store2_world w blk off dk3 (n + 3) (m + 1) (m) _ _ (by omega) (by omega), ?_⟩
        refine ⟨by omega, by rw [p2_size]; exact hs3, by have := HI0.out.vle; omega, ?_⟩
        rw [← HI0.out.fin, fin8, HD3.out, HD2.out, HD1.out]
        rfl
      case measure => simp [RowKit.intOf]; omega
    · have hc8 : nd = 0 ∨ nd = 1 ∨ nd = 2 ∨ nd = 3 ∨ nd = 4 ∨ nd = 5 ∨ nd = 6 ∨ nd = 7 := by omega
      have hfin : fin nd v dk0 = F := HI0.out.fin
      rw [fin_lt _ _ _ (by omega)] at hfin
      obtain ⟨y, hy⟩ : ∃ y, y = v % 4294967296 := ⟨_, rfl⟩
      rw [← hy] at hfin
      have hy32 : y < 4294967296 := by omega
      have hcv := cv32 v y hy
      have HY := Lib.hid hy
      have HFIN := Lib.hid hfin
      have hleT : nd ≤ d.size := HI0.out.le
      clear hy hfin HFF
      rcases hc8 with rfl | rfl | rfl | rfl | rfl | rfl | rfl | rfl
      · go_wp2
        go_end0
        exact ⟨rfl, n, dk0, AW0.out, HFIN.out⟩
      · go_wp2
        go_end0
        exact ⟨rfl, n, p1 dk0 y, by rw [AW0.out]; exact store1_world0 w blk off dk0 n _ (y) (by omega) (by omega), HFIN.out⟩
      · go_wp2
        go_name_slot 16 x0 hx0
        have hxe0 : x0 = ((y % 100 * 2 : Nat) : Int) := by omega
        have hXa0 : ∀ w, (Instr.index 9 (.string Lib.smalls) (.int .u32 (x0 + 1))).run Tryd.prog w = .ok (.int .u8 ((sm (y % 100 * 2 + 1)).toNat : Int)) w := idx_smalls 9 Tryd.underlying9 .u32 _ _ (by omega) (by omega)
        have hXb0 : ∀ w, (Instr.index 9 (.string Lib.smalls) (.int .u32 x0)).run Tryd.prog w = .ok (.int .u8 ((sm (y % 100 * 2)).toNat : Int)) w := idx_smalls 9 Tryd.underlying9 .u32 _ _ (by omega) (by omega)
        have hlo0 : 0 ≤ x0 := by omega
        have hhi0 : x0 ≤ 198 := by omega
        clear hx0 hxe0
        go_region
        go_wp2
        go_end0
        refine ⟨rfl, n + 0 + 1, p2 dk0 (0) (y), by rw [AW0.out]; exact store2_world w blk off dk0 (n + 0) (0 + 1) (0) _ _ (by omega) (by omega), ?_⟩
        rw [← HFIN.out]; rfl
      · go_wp2
        go_name_slot 16 x0 hx0
        have hxe0 : x0 = ((y % 100 * 2 : Nat) : Int) := by omega
        have hXa0 : ∀ w, (Instr.index 9 (.string Lib.smalls) (.int .u32 (x0 + 1))).run Tryd.prog w = .ok (.int .u8 ((sm (y % 100 * 2 + 1)).toNat : Int)) w := idx_smalls 9 Tryd.underlying9 .u32 _ _ (by omega) (by omega)
        have hXb0 : ∀ w, (Instr.index 9 (.string Lib.smalls) (.int .u32 x0)).run Tryd.prog w = .ok (.int .u8 ((sm (y % 100 * 2)).toNat : Int)) w := idx_smalls 9 Tryd.underlying9 .u32 _ _ (by omega) (by omega)
        have hlo0 : 0 ≤ x0 := by omega
        have hhi0 : x0 ≤ 198 := by omega
        clear hx0 hxe0
        go_region
        go_wp2
        go_end0
        refine ⟨rfl, n + 0 + 1, p1 (p2 dk0 (1) (y)) (y / 100), by rw [AW0.out]; exact store21_world w blk off dk0 (n + 0) (1 + 1) (1) _ _ _ (y / 100) (by omega) (by omega) (by omega), ?_⟩
        rw [← HFIN.out]; rfl
      · go_wp2
        go_name_slot 15 x0 hx0
        have hxe0 : x0 = ((y % 100 * 2 : Nat) : Int) := by omega
        have hXa0 : ∀ w, (Instr.index 9 (.string Lib.smalls) (.int .u32 (x0 + 1))).run Tryd.prog w = .ok (.int .u8 ((sm (y % 100 * 2 + 1)).toNat : Int)) w := idx_smalls 9 Tryd.underlying9 .u32 _ _ (by omega) (by omega)
        have hXb0 : ∀ w, (Instr.index 9 (.string Lib.smalls) (.int .u32 x0)).run Tryd.prog w = .ok (.int .u8 ((sm (y % 100 * 2)).toNat : Int)) w := idx_smalls 9 Tryd.underlying9 .u32 _ _ (by omega) (by omega)
        have hlo0 : 0 ≤ x0 := by omega
        have hhi0 : x0 ≤ 198 := by omega
        clear hx0 hxe0
        go_region
        go_wp2
        go_name_world W1 hW1
        have hw1 : W1 = (putRow (fun (b : UInt8) => Value.int .u8 (b.toNat : Int)) w blk off (p2 dk0 (2) (y))).drewN (n + 0 + 1) := by rw [← hW1]; exact (by rw [AW0.out]; exact store2_world w blk off dk0 (n + 0) (2 + 1) (2) _ _ (by omega) (by omega))
        have hs1 : (p2 dk0 (2) (y)).size = d.size := by rw [p2_size]; exact hs0
        obtain ⟨dk1, hdk1⟩ : ∃ z, z = p2 dk0 (2) (y) := ⟨_, rfl⟩
        rw [← hdk1] at hw1 hs1
        have HD1 := Lib.hid hdk1
        clear hW1 hdk1 hc0 hf0 AW0 hXa0 hXb0
        have hH1 : Holds (fun (b : UInt8) => Value.int .u8 (b.toNat : Int)) W1 blk off dk1 := by rw [hw1]; exact holds_putRow _ w blk off d dk1 AH.out hs1
        obtain ⟨G1, hG1⟩ : ∃ G : Nat → Int, ∀ t, G t = (dk1[t]!.toNat : Int) := ⟨_, fun _ => rfl⟩
        have hc1 : ∀ t, t < d.size → W1.cell? ⟨blk, off + t, none⟩ = some (.int .u8 (G1 t)) := fun t ht => by rw [hG1]; exact (hH1 t (by omega)).1
        have hf1 : ∀ t, t < d.size → W1.frozen? ⟨blk, off + t, none⟩ = false := fun t ht => (hH1 t (by omega)).2
        have AW1 := Lib.hid hw1
        clear hw1 hG1 hH1
        go_name_slot 14 x1 hx1
        have hxe1 : x1 = ((y / 100 % 100 * 2 : Nat) : Int) := by omega
        have hXa1 : ∀ w, (Instr.index 9 (.string Lib.smalls) (.int .u32 (x1 + 1))).run Tryd.prog w = .ok (.int .u8 ((sm (y / 100 % 100 * 2 + 1)).toNat : Int)) w := idx_smalls 9 Tryd.underlying9 .u32 _ _ (by omega) (by omega)
        have hXb1 : ∀ w, (Instr.index 9 (.string Lib.smalls) (.int .u32 x1)).run Tryd.prog w = .ok (.int .u8 ((sm (y / 100 % 100 * 2)).toNat : Int)) w := idx_smalls 9 Tryd.underlying9 .u32 _ _ (by omega) (by omega)
        have hlo1 : 0 ≤ x1 := by omega
        have hhi1 : x1 ≤ 198 := by omega
        clear hx1 hxe1
        go_region
        go_wp2
        go_end0
        refine ⟨rfl, n + 1 + 1, p2 dk1 (0) (y / 100), by rw [AW1.out]; exact store2_world w blk off dk1 (n + 1) (0 + 1) (0) _ _ (by omega) (by omega), ?_⟩
        rw [← HFIN.out, HD1.out]; rfl
      · go_wp2
        go_name_slot 15 x0 hx0
        have hxe0 : x0 = ((y % 100 * 2 : Nat) : Int) := by omega
        have hXa0 : ∀ w, (Instr.index 9 (.string Lib.smalls) (.int .u32 (x0 + 1))).run Tryd.prog w = .ok (.int .u8 ((sm (y % 100 * 2 + 1)).toNat : Int)) w := idx_smalls 9 Tryd.underlying9 .u32 _ _ (by omega) (by omega)
        have hXb0 : ∀ w, (Instr.index 9 (.string Lib.smalls) (.int .u32 x0)).run Tryd.prog w = .ok (.int .u8 ((sm (y % 100 * 2)).toNat : Int)) w := idx_smalls 9 Tryd.underlying9 .u32 _ _ (by omega) (by omega)
        have hlo0 : 0 ≤ x0 := by omega
        have hhi0 : x0 ≤ 198 := by omega
        clear hx0 hxe0
        go_region
        go_wp2
        go_name_world W1 hW1
        have hw1 : W1 = (putRow (fun (b : UInt8) => Value.int .u8 (b.toNat : Int)) w blk off (p2 dk0 (3) (y))).drewN (n + 0 + 1) := by rw [← hW1]; exact (by rw [AW0.out]; exact store2_world w blk off dk0 (n + 0) (3 + 1) (3) _ _ (by omega) (by omega))
        have hs1 : (p2 dk0 (3) (y)).size = d.size := by rw [p2_size]; exact hs0
        obtain ⟨dk1, hdk1⟩ : ∃ z, z = p2 dk0 (3) (y) := ⟨_, rfl⟩
        rw [← hdk1] at hw1 hs1
        have HD1 := Lib.hid hdk1
        clear hW1 hdk1 hc0 hf0 AW0 hXa0 hXb0
        have hH1 : Holds (fun (b : UInt8) => Value.int .u8 (b.toNat : Int)) W1 blk off dk1 := by rw [hw1]; exact holds_putRow _ w blk off d dk1 AH.out hs1
        obtain ⟨G1, hG1⟩ : ∃ G : Nat → Int, ∀ t, G t = (dk1[t]!.toNat : Int) := ⟨_, fun _ => rfl⟩
        have hc1 : ∀ t, t < d.size → W1.cell? ⟨blk, off + t, none⟩ = some (.int .u8 (G1 t)) := fun t ht => by rw [hG1]; exact (hH1 t (by omega)).1
        have hf1 : ∀ t, t < d.size → W1.frozen? ⟨blk, off + t, none⟩ = false := fun t ht => (hH1 t (by omega)).2
        have AW1 := Lib.hid hw1
        clear hw1 hG1 hH1
        go_name_slot 14 x1 hx1
        have hxe1 : x1 = ((y / 100 % 100 * 2 : Nat) : Int) := by omega
        have hXa1 : ∀ w, (Instr.index 9 (.string Lib.smalls) (.int .u32 (x1 + 1))).run Tryd.prog w = .ok (.int .u8 ((sm (y / 100 % 100 * 2 + 1)).toNat : Int)) w := idx_smalls 9 Tryd.underlying9 .u32 _ _ (by omega) (by omega)
        have hXb1 : ∀ w, (Instr.index 9 (.string Lib.smalls) (.int .u32 x1)).run Tryd.prog w = .ok (.int .u8 ((sm (y / 100 % 100 * 2)).toNat : Int)) w := idx_smalls 9 Tryd.underlying9 .u32 _ _ (by omega) (by omega)
        have hlo1 : 0 ≤ x1 := by omega
        have hhi1 : x1 ≤ 198 := by omega
        clear hx1 hxe1
        go_region
        go_wp2
        go_end0
        refine ⟨rfl, n + 1 + 1, p1 (p2 dk1 (1) (y / 100)) (y / 100 / 100), by rw [AW1.out]; exact store21_world w blk off dk1 (n + 1) (1 + 1) (1) _ _ _ (y / 100 / 100) (by omega) (by omega) (by omega), ?_⟩
        rw [← HFIN.out, HD1.out]; rfl
      · go_wp2
        go_name_slot 15 x0 hx0
        have hxe0 : x0 = ((y % 100 * 2 : Nat) : Int) := by omega
        have hXa0 : ∀ w, (Instr.index 9 (.string Lib.smalls) (.int .u32 (x0 + 1))).run Tryd.prog w = .ok (.int .u8 ((sm (y % 100 * 2 + 1)).toNat : Int)) w := idx_smalls 9 Tryd.underlying9 .u32 _ _ (by omega) (by omega)
        have hXb0 : ∀ w, (Instr.index 9 (.string Lib.smalls) (.int .u32 x0)).run Tryd.prog w = .ok (.int .u8 ((sm (y % 100 * 2)).toNat : Int)) w := idx_smalls 9 Tryd.underlying9 .u32 _ _ (by omega) (by omega)
        have hlo0 : 0 ≤ x0 := by omega
        have hhi0 : x0 ≤ 198 := by omega
        clear hx0 hxe0
        go_region
        go_wp2
        go_name_world W1 hW1
        have hw1 : W1 = (putRow (fun (b : UInt8) => Value.int .u8 (b.toNat : Int)) w blk off (p2 dk0 (4) (y))).drewN (n + 0 + 1) := by rw [← hW1]; exact (by rw [AW0.out]; exact store2_world w blk off dk0 (n + 0) (4 + 1) (4) _ _ (by omega) (by omega))
        have hs1 : (p2 dk0 (4) (y)).size = d.size := by rw [p2_size]; exact hs0
        obtain ⟨dk1, hdk1⟩ : ∃ z, z = p2 dk0 (4) (y) := ⟨_, rfl⟩
        rw [← hdk1] at hw1 hs1
        have HD1 := Lib.hid hdk1
        clear hW1 hdk1 hc0 hf0 AW0 hXa0 hXb0
        have hH1 : Holds (fun (b : UInt8) => Value.int .u8 (b.toNat : Int)) W1 blk off dk1 := by rw [hw1]; exact holds_putRow _ w blk off d dk1 AH.out hs1
        obtain ⟨G1, hG1⟩ : ∃ G : Nat → Int, ∀ t, G t = (dk1[t]!.toNat : Int) := ⟨_, fun _ => rfl⟩
        have hc1 : ∀ t, t < d.size → W1.cell? ⟨blk, off + t, none⟩ = some (.int .u8 (G1 t)) := fun t ht => by rw [hG1]; exact (hH1 t (by omega)).1
        have hf1 : ∀ t, t < d.size → W1.frozen? ⟨blk, off + t, none⟩ = false := fun t ht => (hH1 t (by omega)).2
        have AW1 := Lib.hid hw1
        clear hw1 hG1 hH1
        go_name_slot 14 x1 hx1
        have hxe1 : x1 = ((y / 100 % 100 * 2 : Nat) : Int) := by omega
        have hXa1 : ∀ w, (Instr.index 9 (.string Lib.smalls) (.int .u32 (x1 + 1))).run Tryd.prog w = .ok (.int .u8 ((sm (y / 100 % 100 * 2 + 1)).toNat : Int)) w := idx_smalls 9 Tryd.underlying9 .u32 _ _ (by omega) (by omega)
        have hXb1 : ∀ w, (Instr.index 9 (.string Lib.smalls) (.int .u32 x1)).run Tryd.prog w = .ok (.int .u8 ((sm (y / 100 % 100 * 2)).toNat : Int)) w := idx_smalls 9 Tryd.underlying9 .u32 _ _ (by omega) (by omega)
        have hlo1 : 0 ≤ x1 := by omega
        have hhi1 : x1 ≤ 198 := by omega
        clear hx1 hxe1
        go_region
        go_wp2
        go_name_world W2 hW2
        have hw2 : W2 = (putRow (fun (b : UInt8) => Value.int .u8 (b.toNat : Int)) w blk off (p2 dk1 (2) (y / 100))).drewN (n + 1 + 1) := by rw [← hW2]; exact (by rw [AW1.out]; exact store2_world w blk off dk1 (n + 1) (2 + 1) (2) _ _ (by omega) (by omega))
        have hs2 : (p2 dk1 (2) (y / 100)).size = d.size := by rw [p2_size]; exact hs1
        obtain ⟨dk2, hdk2⟩ : ∃ z, z = p2 dk1 (2) (y / 100) := ⟨_, rfl⟩
        rw [← hdk2] at hw2 hs2
        have HD2 := Lib.hid hdk2
        clear hW2 hdk2 hc1 hf1 AW1 hXa1 hXb1
        have hH2 : Holds (fun (b : UInt8) => Value.int .u8 (b.toNat : Int)) W2 blk off dk2 := by rw [hw2]; exact holds_putRow _ w blk off d dk2 AH.out hs2
        obtain ⟨G2, hG2⟩ : ∃ G : Nat → Int, ∀ t, G t = (dk2[t]!.toNat : Int) := ⟨_, fun _ => rfl⟩
        have hc2 : ∀ t, t < d.size → W2.cell? ⟨blk, off + t, none⟩ = some (.int .u8 (G2 t)) := fun t ht => by rw [hG2]; exact (hH2 t (by omega)).1
        have hf2 : ∀ t, t < d.size → W2.frozen? ⟨blk, off + t, none⟩ = false := fun t ht => (hH2 t (by omega)).2
        have AW2 := Lib.hid hw2
        clear hw2 hG2 hH2
        go_name_slot 16 x2 hx2
        have hxe2 : x2 = ((y / 100 / 100 % 100 * 2 : Nat) : Int) := by omega
        have hXa2 : ∀ w, (Instr.index 9 (.string Lib.smalls) (.int .u32 (x2 + 1))).run Tryd.prog w = .ok (.int .u8 ((sm (y / 100 / 100 % 100 * 2 + 1)).toNat : Int)) w := idx_smalls 9 Tryd.underlying9 .u32 _ _ (by omega) (by omega)
        have hXb2 : ∀ w, (Instr.index 9 (.string Lib.smalls) (.int .u32 x2)).run Tryd.prog w = .ok (.int .u8 ((sm (y / 100 / 100 % 100 * 2)).toNat : Int)) w := idx_smalls 9 Tryd.underlying9 .u32 _ _ (by omega) (by omega)
        have hlo2 : 0 ≤ x2 := by omega
        have hhi2 : x2 ≤ 198 := by omega
        clear hx2 hxe2
        go_region
        go_wp2
        go_end0
        refine ⟨rfl, n + 2 + 1, p2 dk2 (0) (y / 100 / 100), by rw [AW2.out]; exact store2_world w blk off dk2 (n + 2) (0 + 1) (0) _ _ (by omega) (by omega), ?_⟩
        rw [← HFIN.out, HD2.out, HD1.out]; rfl
      · go_wp2
        go_name_slot 15 x0 hx0
        have hxe0 : x0 = ((y % 100 * 2 : Nat) : Int) := by omega
        have hXa0 : ∀ w, (Instr.index 9 (.string Lib.smalls) (.int .u32 (x0 + 1))).run Tryd.prog w = .ok (.int .u8 ((sm (y % 100 * 2 + 1)).toNat : Int)) w := idx_smalls 9 Tryd.underlying9 .u32 _ _ (by omega) (by omega)
        have hXb0 : ∀ w, (Instr.index 9 (.string Lib.smalls) (.int .u32 x0)).run Tryd.prog w = .ok (.int .u8 ((sm (y % 100 * 2)).toNat : Int)) w := idx_smalls 9 Tryd.underlying9 .u32 _ _ (by omega) (by omega)
        have hlo0 : 0 ≤ x0 := by omega
        have hhi0 : x0 ≤ 198 := by omega
        clear hx0 hxe0
        go_region
        go_wp2
        go_name_world W1 hW1
        have hw1 : W1 = (putRow (fun (b : UInt8) => Value.int .u8 (b.toNat : Int)) w blk off (p2 dk0 (5) (y))).drewN (n + 0 + 1) := by rw [← hW1]; exact (by rw [AW0.out]; exact store2_world w blk off dk0 (n + 0) (5 + 1) (5) _ _ (by omega) (by omega))
        have hs1 : (p2 dk0 (5) (y)).size = d.size := by rw [p2_size]; exact hs0
        obtain ⟨dk1, hdk1⟩ : ∃ z, z = p2 dk0 (5) (y) := ⟨_, rfl⟩
        rw [← hdk1] at hw1 hs1
        have HD1 := Lib.hid hdk1
        clear hW1 hdk1 hc0 hf0 AW0 hXa0 hXb0
        have hH1 : Holds (fun (b : UInt8) => Value.int .u8 (b.toNat : Int)) W1 blk off dk1 := by rw [hw1]; exact holds_putRow _ w blk off d dk1 AH.out hs1
        obtain ⟨G1, hG1⟩ : ∃ G : Nat → Int, ∀ t, G t = (dk1[t]!.toNat : Int) := ⟨_, fun _ => rfl⟩
        have hc1 : ∀ t, t < d.size → W1.cell? ⟨blk, off + t, none⟩ = some (.int .u8 (G1 t)) := fun t ht => by rw [hG1]; exact (hH1 t (by omega)).1
        have hf1 : ∀ t, t < d.size → W1.frozen? ⟨blk, off + t, none⟩ = false := fun t ht => (hH1 t (by omega)).2
        have AW1 := Lib.hid hw1
        clear hw1 hG1 hH1
        go_name_slot 14 x1 hx1
        have hxe1 : x1 = ((y / 100 % 100 * 2 : Nat) : Int) := by omega
        have hXa1 : ∀ w, (Instr.index 9 (.string Lib.smalls) (.int .u32 (x1 + 1))).run Tryd.prog w = .ok (.int .u8 ((sm (y / 100 % 100 * 2 + 1)).toNat : Int)) w := idx_smalls 9 Tryd.underlying9 .u32 _ _ (by omega) (by omega)
        have hXb1 : ∀ w, (Instr.index 9 (.string Lib.smalls) (.int .u32 x1)).run Tryd.prog w = .ok (.int .u8 ((sm (y / 100 % 100 * 2)).toNat : Int)) w := idx_smalls 9 Tryd.underlying9 .u32 _ _ (by omega) (by omega)
        have hlo1 : 0 ≤ x1 := by omega
        have hhi1 : x1 ≤ 198 := by omega
        clear hx1 hxe1
        go_region
        go_wp2
        go_name_world W2 hW2
        have hw2 : W2 = (putRow (fun (b : UInt8) => Value.int .u8 (b.toNat : Int)) w blk off (p2 dk1 (3) (y / 100))).drewN (n + 1 + 1) := by rw [← hW2]; exact (by rw [AW1.out]; exact store2_world w blk off dk1 (n + 1) (3 + 1) (3) _ _ (by omega) (by omega))
        have hs2 : (p2 dk1 (3) (y / 100)).size = d.size := by rw [p2_size]; exact hs1
        obtain ⟨dk2, hdk2⟩ : ∃ z, z = p2 dk1 (3) (y / 100) := ⟨_, rfl⟩
        rw [← hdk2] at hw2 hs2
        have HD2 := Lib.hid hdk2
        clear hW2 hdk2 hc1 hf1 AW1 hXa1 hXb1
        have hH2 : Holds (fun (b : UInt8) => Value.int .u8 (b.toNat : Int)) W2 blk off dk2 := by rw [hw2]; exact holds_putRow _ w blk off d dk2 AH.out hs2
        obtain ⟨G2, hG2⟩ : ∃ G : Nat → Int, ∀ t, G t = (dk2[t]!.toNat : Int) := ⟨_, fun _ => rfl⟩
        have hc2 : ∀ t, t < d.size → W2.cell? ⟨blk, off + t, none⟩ = some (.int .u8 (G2 t)) := fun t ht => by rw [hG2]; exact (hH2 t (by omega)).1
        have hf2 : ∀ t, t < d.size → W2.frozen? ⟨blk, off + t, none⟩ = false := fun t ht => (hH2 t (by omega)).2
        have AW2 := Lib.hid hw2
        clear hw2 hG2 hH2
        go_name_slot 16 x2 hx2
        have hxe2 : x2 = ((y / 100 / 100 % 100 * 2 : Nat) : Int) := by omega
        have hXa2 : ∀ w, (Instr.index 9 (.string Lib.smalls) (.int .u32 (x2 + 1))).run Tryd.prog w = .ok (.int .u8 ((sm (y / 100 / 100 % 100 * 2 + 1)).toNat : Int)) w := idx_smalls 9 Tryd.underlying9 .u32 _ _ (by omega) (by omega)
        have hXb2 : ∀ w, (Instr.index 9 (.string Lib.smalls) (.int .u32 x2)).run Tryd.prog w = .ok (.int .u8 ((sm (y / 100 / 100 % 100 * 2)).toNat : Int)) w := idx_smalls 9 Tryd.underlying9 .u32 _ _ (by omega) (by omega)
        have hlo2 : 0 ≤ x2 := by omega
        have hhi2 : x2 ≤ 198 := by omega
        clear hx2 hxe2
        go_region
        go_wp2
        go_end0
        refine ⟨rfl, n + 2 + 1, p1 (p2 dk2 (1) (y / 100 / 100)) (y / 100 / 100 / 100), by rw [AW2.out]; exact store21_world w blk off dk2 (n + 2) (1 + 1) (1) _ _ _ (y / 100 / 100 / 100) (by omega) (by omega) (by omega), ?_⟩
        rw [← HFIN.out, HD2.out, HD1.out]; rfl
end Go.Proofs.YtcaieekbalmghaaDoor
