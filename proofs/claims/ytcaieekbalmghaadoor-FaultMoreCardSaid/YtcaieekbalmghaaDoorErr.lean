/- An error's text, whatever the table of powers of ten holds. -/
import Derived.Test.YtcaieekbalmghaaDoorInt
import Derived.Test.YtcaieekbalmghaaDoorAsD
import Derived.Deep.RegionHeld3
import Derived.Deep.DrawnRows
namespace Go.Proofs.YtcaieekbalmghaaDoor
open Go.RowKit Go.Sort

/-- an error's value: its number, the steps from the last one on -/
def errV (e : Int) : List (ByteArray × Int) → Value
  | [] => .iface 22 (.int .i64 e)
  | (s, n) :: t => .iface 38 (.agg #[.string s, .int .i64 n, errV e t])
def i64ok (n : Int) : Prop := -9223372036854775808 ≤ n ∧ n ≤ 9223372036854775807
def itoaB (tab : Nat → Int) (n : Int) : ByteArray := ⟨(fmtI tab n).toArray⟩
theorem itoaB_size (tab : Nat → Int) (n : Int) (h : i64ok n) : (itoaB tab n).size ≤ 21 := by
  unfold i64ok at h
  show (fmtI tab n).toArray.size ≤ 21
  rw [List.size_toArray]
  unfold fmtI
  split
  · rename_i hs
    rw [Lib.decDigits_length]
    by_cases h10 : n.toNat < 10
    · rw [Lib.nDigits_small h10]; omega
    · rw [Lib.nDigits_big h10, Lib.nDigits_small (by omega)]; omega
  · split
    · have := nd_le tab n.natAbs (by omega)
      rw [List.length_cons, Array.length_toList, fin_rep]; omega
    · have := nd_le tab n.toNat (by omega)
      rw [Array.length_toList, fin_rep]; omega
theorem tab_below {tab : Nat → Int} {w w' : World} (h : Tab tab w) (hb : Below w.heap.size w w') : Tab tab w' := fun q hq => by
  rw [hb.cell (p := ⟨1, q, none⟩) (tab_lt h)]; exact h q hq
theorem below_grow (w : World) (k : Nat) (os : Array Obj) : Below w.heap.size w (grow (w.drewN k) os) :=
  ⟨rfl, rfl, rfl, by simp, fun _ hk => heap_grow_old (w.drewN k) os hk⟩

set_option maxRecDepth 100000 in
theorem itoa39 (tab : Nat → Int) (n : Int) (h : i64ok n) (w : World) (ht : Tab tab w) :
    Calls Tryd.prog 39 #[.int .i64 n] w fun e w' => e = .returned (.string (itoaB tab n)) ∧ Below w.heap.size w w' := by
  obtain ⟨h0, h1⟩ := h
  go_enter Tryd.func39, Tryd.ntmps39
  go_wp2_with (go_at_call 40; refine (formatInt tab n h0 h1 _ ht).mono ?_; rintro e w' ⟨rfl, k, os, rfl⟩)
  go_ret
  exact ⟨rfl, below_grow _ _ _⟩
set_option maxRecDepth 100000 in
theorem itoa38 (tab : Nat → Int) (n : Int) (h : i64ok n) (w : World) (ht : Tab tab w) :
    Calls Tryd.prog 38 #[.int .i64 n] w fun e w' => e = .returned (.string (itoaB tab n)) ∧ Below w.heap.size w w' := by
  go_enter Tryd.func38, Tryd.ntmps38
  go_wp2_with (go_at_call 39; refine (itoa39 tab n h _ ht).mono ?_; rintro e w' ⟨rfl, hb⟩)
  go_ret
  exact ⟨rfl, hb⟩

def cohB : ByteArray := ⟨#[99, 111, 104, 111, 114, 116, 58, 32, 101, 114, 114, 111, 114, 32]⟩
def errB (tab : Nat → Int) (e : Int) : List (ByteArray × Int) → ByteArray
  | [] => cohB ++ itoaB tab e
  | (s, n) :: t => s ++ ⟨#[32]⟩ ++ itoaB tab n ++ ⟨#[58, 32]⟩ ++ errB tab e t

set_option maxRecDepth 100000 in
theorem error37 (tab : Nat → Int) (n : Int) (h : i64ok n) (w : World) (ht : Tab tab w) :
    Calls Tryd.prog 37 #[.int .i64 n] w fun e w' => e = .returned (.string (errB tab n [])) ∧ Below w.heap.size w w' := by
  have hs := itoaB_size tab n h
  go_enter Tryd.func37, Tryd.ntmps37
  go_wp2_with (go_at_call 38; refine (itoa38 tab n h _ ht).mono ?_; rintro e w' ⟨rfl, hb⟩)
  go_ret
  exact ⟨rfl, hb⟩

theorem errV_iface (e : Int) (tr : List (ByteArray × Int)) : ∃ u x, errV e tr = .iface u x := by
  cases tr with
  | nil => exact ⟨_, _, rfl⟩
  | cons a t => obtain ⟨s, n⟩ := a; exact ⟨_, _, rfl⟩

/-- what a call of the method Error on this value comes to -/
def SaysErr (tab : Nat → Int) (e : Int) (tr : List (ByteArray × Int)) : Prop :=
  ∀ w : World, Tab tab w → match tr with
    | [] => Calls Tryd.prog 37 #[.int .i64 e] w fun r w' => r = .returned (.string (errB tab e [])) ∧ Below w.heap.size w w'
    | (s, n) :: t => Calls Tryd.prog 52 #[.agg #[.string s, .int .i64 n, errV e t]] w fun r w' => r = .returned (.string (errB tab e ((s, n) :: t))) ∧ Below w.heap.size w w'

theorem cat9 (a b : ByteArray) (w : World) (h : a.size + b.size ≤ 9223372036854775807) : (binOp .add 9 (.string a) (.string b)).run Tryd.prog w = .ok (.string (a ++ b)) w := by
  simp only [binOp]
  exact run_string_add_sum w a b h
theorem keepS {tab : Nat → Int} {w0 W W' : World} {s : ByteArray} {n : Int} {v : Value} (h : W.cell? ⟨w0.heap.size, 0, none⟩ = some (.string s) ∧ W.cell? ⟨w0.heap.size, 1, none⟩ = some (.int .i64 n) ∧ W.cell? ⟨w0.heap.size, 2, none⟩ = some v ∧ Tab tab W ∧ Below w0.heap.size w0 W)
    (hb : Below W.heap.size W W') : W'.cell? ⟨w0.heap.size, 0, none⟩ = some (.string s) ∧ W'.cell? ⟨w0.heap.size, 1, none⟩ = some (.int .i64 n) ∧ W'.cell? ⟨w0.heap.size, 2, none⟩ = some v ∧ Tab tab W' ∧ Below w0.heap.size w0 W' := by
  obtain ⟨h0, h1, h2, h3, h4⟩ := h
  have hlt : w0.heap.size < W.heap.size := by
    rcases Nat.lt_or_ge w0.heap.size W.heap.size with h | h
    · exact h
    · simp [World.cell?, Array.getElem?_eq_none h] at h0
  exact ⟨by rw [hb.cell (p := ⟨w0.heap.size, 0, none⟩) hlt]; exact h0, by rw [hb.cell (p := ⟨w0.heap.size, 1, none⟩) hlt]; exact h1, by rw [hb.cell (p := ⟨w0.heap.size, 2, none⟩) hlt]; exact h2, tab_below h3 hb, h4.trans (hb.mono h4.size)⟩

theorem tabS {tab : Nat → Int} {w0 W : World} {s : ByteArray} {n : Int} {v : Value} (h : W.cell? ⟨w0.heap.size, 0, none⟩ = some (.string s) ∧ W.cell? ⟨w0.heap.size, 1, none⟩ = some (.int .i64 n) ∧ W.cell? ⟨w0.heap.size, 2, none⟩ = some v ∧ Tab tab W ∧ Below w0.heap.size w0 W) : Tab tab W := h.2.2.2.1
theorem belS {tab : Nat → Int} {w0 W : World} {s : ByteArray} {n : Int} {v : Value} (h : W.cell? ⟨w0.heap.size, 0, none⟩ = some (.string s) ∧ W.cell? ⟨w0.heap.size, 1, none⟩ = some (.int .i64 n) ∧ W.cell? ⟨w0.heap.size, 2, none⟩ = some v ∧ Tab tab W ∧ Below w0.heap.size w0 W) : Below w0.heap.size w0 W := h.2.2.2.2

set_option maxHeartbeats 4000000 in
set_option maxRecDepth 100000 in
theorem error52a (tab : Nat → Int) (e : Int) (s : ByteArray) (n : Int)  (hn : i64ok n) (hsz : s.size ≤ 2000000) (hsz2 : (errB tab e []).size ≤ 2000000) (w : World) (ht : Tab tab w) (ih : SaysErr tab e []) :
    Calls Tryd.prog 52 #[.agg #[.string s, .int .i64 n, .iface 22 (.int .i64 e)]] w fun r w' => r = .returned (.string (s ++ ⟨#[32]⟩ ++ itoaB tab n ++ ⟨#[58, 32]⟩ ++ errB tab e [])) ∧ Below w.heap.size w w' := by
  have hs := itoaB_size tab n hn
  have m1 := mError22
  have hT0 := tab_alloc ht (.cells #[.string s, .int .i64 n, .iface 22 (.int .i64 e)] 38)
  clear ht
  have b1 : ¬ (9223372036854775807 < s.size + 1) := by omega
  have b2 : ¬ (9223372036854775807 < s.size + 1 + (itoaB tab n).size) := by omega
  have b3 : ¬ (9223372036854775807 < s.size + 1 + (itoaB tab n).size + 2) := by omega
  have b4 : ¬ (9223372036854775807 < s.size + 1 + (itoaB tab n).size + 2 + (errB tab e []).size) := by omega
  have s0 : (w.alloc (.cells #[.string s, .int .i64 n, .iface 22 (.int .i64 e)] 38)).drew.cell? ⟨w.heap.size, 0, none⟩ = some (.string s) ∧ (w.alloc (.cells #[.string s, .int .i64 n, .iface 22 (.int .i64 e)] 38)).drew.cell? ⟨w.heap.size, 1, none⟩ = some (.int .i64 n) ∧ (w.alloc (.cells #[.string s, .int .i64 n, .iface 22 (.int .i64 e)] 38)).drew.cell? ⟨w.heap.size, 2, none⟩ = some (.iface 22 (.int .i64 e)) ∧ Tab tab (w.alloc (.cells #[.string s, .int .i64 n, .iface 22 (.int .i64 e)] 38)).drew ∧ Below w.heap.size w (w.alloc (.cells #[.string s, .int .i64 n, .iface 22 (.int .i64 e)] 38)).drew :=
    ⟨by simp, by simp, by simp, hT0, ((Below.refl _ _).alloc (Nat.le_refl _) _).drew⟩
  have S0 := Lib.hid s0
  clear s0 hT0
  go_enter Tryd.func52, Tryd.ntmps52
  go_wp2_with fail
  go_region_held3 (fun w' => w'.cell? ⟨w.heap.size, 0, none⟩ = some (.string s) ∧ w'.cell? ⟨w.heap.size, 1, none⟩ = some (.int .i64 n) ∧ w'.cell? ⟨w.heap.size, 2, none⟩ = some (.iface 22 (.int .i64 e)) ∧ Tab tab w' ∧ Below w.heap.size w w') (first | exact S0.out | exact keepS (by assumption) (by assumption))
    (first | (go_at_call 38; refine (itoa38 tab n hn _ ?ht38).mono ?hk38; (case ht38 => exact tabS (by assumption)); rintro r w' ⟨rfl, hb⟩) | (go_at_call 37; refine (ih _ ?ht37).mono ?hk37; (case ht37 => exact tabS (by assumption)); rintro r w' ⟨rfl, hb⟩))
  go_wp2
  go_ret
  exact ⟨rfl, belS (by assumption)⟩

set_option maxHeartbeats 4000000 in
set_option maxRecDepth 100000 in
theorem error52b (tab : Nat → Int) (e : Int) (s : ByteArray) (n : Int) (s' : ByteArray) (n' : Int) (t : List (ByteArray × Int)) (hn : i64ok n) (hsz : s.size ≤ 2000000) (hsz2 : (errB tab e ((s', n') :: t)).size ≤ 2000000) (w : World) (ht : Tab tab w) (ih : SaysErr tab e ((s', n') :: t)) :
    Calls Tryd.prog 52 #[.agg #[.string s, .int .i64 n, .iface 38 (.agg #[.string s', .int .i64 n', errV e t])]] w fun r w' => r = .returned (.string (s ++ ⟨#[32]⟩ ++ itoaB tab n ++ ⟨#[58, 32]⟩ ++ errB tab e ((s', n') :: t))) ∧ Below w.heap.size w w' := by
  have hs := itoaB_size tab n hn
  have m1 := mError38
  have hT0 := tab_alloc ht (.cells #[.string s, .int .i64 n, .iface 38 (.agg #[.string s', .int .i64 n', errV e t])] 38)
  clear ht
  have b1 : ¬ (9223372036854775807 < s.size + 1) := by omega
  have b2 : ¬ (9223372036854775807 < s.size + 1 + (itoaB tab n).size) := by omega
  have b3 : ¬ (9223372036854775807 < s.size + 1 + (itoaB tab n).size + 2) := by omega
  have b4 : ¬ (9223372036854775807 < s.size + 1 + (itoaB tab n).size + 2 + (errB tab e ((s', n') :: t)).size) := by omega
  have s0 : (w.alloc (.cells #[.string s, .int .i64 n, .iface 38 (.agg #[.string s', .int .i64 n', errV e t])] 38)).drew.cell? ⟨w.heap.size, 0, none⟩ = some (.string s) ∧ (w.alloc (.cells #[.string s, .int .i64 n, .iface 38 (.agg #[.string s', .int .i64 n', errV e t])] 38)).drew.cell? ⟨w.heap.size, 1, none⟩ = some (.int .i64 n) ∧ (w.alloc (.cells #[.string s, .int .i64 n, .iface 38 (.agg #[.string s', .int .i64 n', errV e t])] 38)).drew.cell? ⟨w.heap.size, 2, none⟩ = some (.iface 38 (.agg #[.string s', .int .i64 n', errV e t])) ∧ Tab tab (w.alloc (.cells #[.string s, .int .i64 n, .iface 38 (.agg #[.string s', .int .i64 n', errV e t])] 38)).drew ∧ Below w.heap.size w (w.alloc (.cells #[.string s, .int .i64 n, .iface 38 (.agg #[.string s', .int .i64 n', errV e t])] 38)).drew :=
    ⟨by simp, by simp, by simp, hT0, ((Below.refl _ _).alloc (Nat.le_refl _) _).drew⟩
  have S0 := Lib.hid s0
  clear s0 hT0
  go_enter Tryd.func52, Tryd.ntmps52
  go_wp2_with fail
  go_region_held3 (fun w' => w'.cell? ⟨w.heap.size, 0, none⟩ = some (.string s) ∧ w'.cell? ⟨w.heap.size, 1, none⟩ = some (.int .i64 n) ∧ w'.cell? ⟨w.heap.size, 2, none⟩ = some (.iface 38 (.agg #[.string s', .int .i64 n', errV e t])) ∧ Tab tab w' ∧ Below w.heap.size w w') (first | exact S0.out | exact keepS (by assumption) (by assumption))
    (first | (go_at_call 38; refine (itoa38 tab n hn _ ?ht38).mono ?hk38; (case ht38 => exact tabS (by assumption)); rintro r w' ⟨rfl, hb⟩) | (go_at_call 52; refine (ih _ ?ht37).mono ?hk37; (case ht37 => exact tabS (by assumption)); rintro r w' ⟨rfl, hb⟩))
  go_wp2
  go_ret
  exact ⟨rfl, belS (by assumption)⟩


theorem errB_size_tail (tab : Nat → Int) (e : Int) (s : ByteArray) (n : Int) (t : List (ByteArray × Int)) : s.size + (errB tab e t).size ≤ (errB tab e ((s, n) :: t)).size := by
  show _ ≤ (s ++ ⟨#[32]⟩ ++ itoaB tab n ++ ⟨#[58, 32]⟩ ++ errB tab e t).size
  simp only [ByteArray.size_append]
  omega
theorem saysErr (tab : Nat → Int) (e : Int) (he : i64ok e) (tr : List (ByteArray × Int)) : (∀ x ∈ tr, i64ok x.2) → (errB tab e tr).size ≤ 2000000 → SaysErr tab e tr := by
  induction tr with
  | nil => exact fun _ _ w ht => error37 tab e he w ht
  | cons a t ih =>
    obtain ⟨s, n⟩ := a
    intro hx hsz w ht
    have hle := errB_size_tail tab e s n t
    have ih' := ih (fun x h => hx x (by simp [h])) (by omega)
    have hn : i64ok n := hx (s, n) (by simp)
    cases t with
    | nil => exact error52a tab e s n hn (by omega) (by omega) w ht ih'
    | cons b t' =>
      obtain ⟨s', n'⟩ := b
      exact error52b tab e s n s' n' t' hn (by omega) (by omega) w ht ih'

set_option maxHeartbeats 4000000 in
set_option maxRecDepth 100000 in
/-- fault.Text -/
theorem text9 (tab : Nat → Int) (e : Int) (he : i64ok e) (tr : List (ByteArray × Int)) (hx : ∀ x ∈ tr, i64ok x.2) (hsz : (errB tab e tr).size ≤ 2000000) (w : World) (ht : Tab tab w) :
    Calls Tryd.prog 9 #[errV e tr] w fun r w' => r = .returned (.string (errB tab e tr)) ∧ Below w.heap.size w w' := by
  have hs := saysErr tab e he tr hx hsz w ht
  have m1 := mError22
  have m2 := mError38
  cases tr with
  | nil =>
    have HS := Lib.hid hs
    clear hs
    show Calls Tryd.prog 9 #[.iface 22 (.int .i64 e)] w _
    go_enter Tryd.func9, Tryd.ntmps9
    go_wp2_with (go_at_call 37; refine HS.out.mono ?_; rintro r w' ⟨rfl, hb⟩)
    go_ret
    exact ⟨rfl, hb⟩
  | cons a t =>
    obtain ⟨s, n⟩ := a
    have HS := Lib.hid hs
    clear hs
    show Calls Tryd.prog 9 #[.iface 38 (.agg #[.string s, .int .i64 n, errV e t])] w _
    go_enter Tryd.func9, Tryd.ntmps9
    go_wp2_with (go_at_call 52; refine HS.out.mono ?_; rintro r w' ⟨rfl, hb⟩)
    go_ret
    exact ⟨rfl, hb⟩
end Go.Proofs.YtcaieekbalmghaaDoor
