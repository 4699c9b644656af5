/- The law FaultMore is true of the given program, whatever its input: an error that is wrapped once more has the same number, one step more ahead, and its text ahead of the other's. Conditions: those that the given row and its card name (errors.errorType is listed and tied); the table of powers of ten may hold whatever it likes. -/
import Derived.Test.YtcaieekbalmghaaDoorCards
import Derived.Test.YtcaieekbalmghaaDoorTie
import Derived.Test.YtcaieekbalmghaaDoorMain
import Derived.ProofKit
import Derived.OpenShut
import Derived.ChangeOld
import Derived.Deep.DeepHandedRow
import Derived.Deep.SlicePairs
import Derived.Lib.LaidTab
import Derived.Lib.SmallJoins
import Derived.LaidHandle
import Derived.Stop.Joined
namespace Go.Proofs.YtcaieekbalmghaaDoor.FM
open Go.ChangeShapes Go.WideShapes Go.ChangeAt Go.RowKit Go.Deep

theorem own : ownKnob Tryd.prog.godebug = none := by kernel_rfl
theorem laidOut : laidOutB Tryd.prog = true := by kernel_rfl
theorem et : Tryd.prog.globalNamed "errors.errorType" = some 0 := by kernel_rfl
theorem rt : (Tryd.prog.cutTypes.find? (·.1 == "internal/reflectlite.rtype")).map (·.2) = some 56 := by kernel_rfl
theorem oneRow : ((List.range 117).filter fun t => Tryd.prog.rowNamed t [101, 114, 114, 111, 114]) = [29] := by kernel_rfl
theorem tsize : Tryd.prog.types.size = 117 := by kernel_rfl
theorem cells25 : Tryd.prog.cellsOf 25 = 2 := by kernel_rfl
theorem hand29 : typeHandle Tryd.prog 29 = .pointer (some ⟨4, 29, none⟩) := by kernel_rfl

/-- what the row's list gives: the variable's one cell -/
theorem gt_of_laid {W : World} (h : laidMetH Tryd.prog Rows.faultMoreRow.laid W) : Gt W := by
  have h' : laidMet Tryd.prog [] W ∧ handlesMet Tryd.prog Rows.faultMoreRow.laid W := h
  obtain ⟨name, u, ty, e1, e2, e3, e4, e5⟩ := h'.2 _ (List.mem_singleton.2 rfl)
  have en : name = [101, 114, 114, 111, 114] := (Option.some.inj e1).symm
  subst en
  obtain rfl := Option.some.inj (rt.symm.trans e2)
  have hm : ty ∈ (List.range 117).filter fun t => Tryd.prog.rowNamed t [101, 114, 114, 111, 114] := List.mem_filter.2 ⟨List.mem_range.2 (by rw [← tsize]; exact e3), e4⟩
  rw [oneRow] at hm
  obtain rfl := List.mem_singleton.1 hm
  rw [hand29] at e5
  simpa [Gt] using World.var?_cell et e5 0

theorem zero1 : (((begin Tryd.prog (fun _ _ => 0) default).world.heap[1]?).bind Obj.row?).map (fun x => (x.1.size, x.2)) = some (20, 95) := by kernel_rfl
theorem ct95 : Tryd.prog.cellTypes Tryd.prog.depth 95 = some (List.replicate 20 87) := by kernel_rfl
theorem bd95 : Tryd.prog.buildable 95 = true := by kernel_rfl
theorem arr_of_shaped {P : Program} {w : World} {g n : Nat} {t u : TypeId} {zero : Array Value} {k : IntKind} (h : w.ShapedOpen P) (hg : g < P.globals.size)
    (h0 : ((begin P (fun _ _ => 0) default).world.heap[g]?).bind Obj.row? = some (zero, t)) (hz : zero.size = n)
    (hb : P.buildable t = true) (hc : P.cellTypes P.depth t = some (List.replicate n u)) (hu : P.underlying u = some (.int k)) :
    ∀ q, q < n → ∃ m : Int, w.cell? ⟨g, q, none⟩ = some (.int k m) := by
  obtain ⟨cs, hh, hs, hr⟩ := h.1 g zero t hg h0
  obtain ⟨ts, hts, _, hall⟩ := hr hb
  rw [hc] at hts
  cases hts
  intro q hq
  have hlt : q < cs.size := by omega
  have hc : cs[q]? = some cs[q] := by simp [hlt]
  obtain ⟨u', hu', hok⟩ := hall q _ hc
  rw [List.length_replicate, Nat.mod_eq_of_lt hq, List.getElem?_replicate, if_pos hq] at hu'
  obtain rfl := Option.some.inj hu'
  have hcell : w.cell? ⟨g, q, none⟩ = some cs[q] := by simp [World.cell?, hh, hlt]
  rw [hcell]
  unfold Cell.ok at hok
  rw [hu] at hok
  cases hv : cs[q] <;> rw [hv] at hok <;> simp at hok
  case int k' n' => exact ⟨n', by rw [hok.1]⟩
theorem gsize : Tryd.prog.globals.size = 4 := by kernel_rfl
/-- what every world that fits gives: the table's twenty cells are numbers -/
theorem tab_of_shaped {w : World} (h : w.ShapedOpen Tryd.prog) : ∃ tab, Tab tab w := by
  obtain ⟨⟨zero, t⟩, hz, he⟩ := Option.map_eq_some_iff.1 zero1
  simp only [Prod.mk.injEq] at he
  obtain ⟨hs0, rfl⟩ := he
  obtain ⟨f, hf⟩ := choose_lt (arr_of_shaped h (by rw [gsize]; omega) hz hs0 bd95 ct95 Tryd.underlying87)
  exact ⟨f, hf⟩

theorem wf_ok {n : Int} (h : (Lit.int .i64 n).wf = true) : i64ok n := by
  have hmin : IntKind.i64.min = -9223372036854775808 := rfl
  have hmax : IntKind.i64.max = 9223372036854775807 := rfl
  simp only [Lit.wf, Bool.and_eq_true, decide_eq_true_eq] at h
  unfold i64ok
  omega
theorem addr_plain {w : World} {x : Addr} {v : Value} (h : w.cell? (x.add (0 * 2)) = some v) : x = ⟨x.block, x.off, none⟩ ∧ x.block < w.heap.size := by
  obtain ⟨b, o, sp⟩ := x
  have e : (⟨b, o, sp⟩ : Addr).add (0 * 2) = ⟨b, o, sp⟩ := rfl
  rw [e] at h
  cases sp with
  | none =>
    refine ⟨rfl, ?_⟩
    rcases Nat.lt_or_ge b w.heap.size with h1 | h1
    · exact h1
    · simp [World.cell?, Array.getElem?_eq_none h1] at h
  | some z =>
    unfold World.cell? at h
    split at h <;> simp at h
def strOf : Value → ByteArray | .string s => s | _ => ByteArray.empty
def numOf : Value → Int | .int _ n => n | _ => 0

theorem contract (H : Type) (enc : TypeId × Value → H) (W : World) (base : Nat) (args : Array Value) (ds gs : List (DataW H)) (before : List MemPlace)
    (hval : ∀ (j : Nat) t v, Tryd.f3.params[j]? = some t → args[j]? = some v → Value.okWide Tryd.prog W .any base t v)
    (hW : DataW.Whole enc Tryd.prog Tryd.f3.params.toList Rows.faultMoreSpec.vars false W args.toList ds gs before) (hL : laidMetH Tryd.prog Rows.faultMoreRow.laid W) (hsh : W.ShapedOpen Tryd.prog)
    (hsz : (DataW.weightsEach Tryd.prog (Tryd.f3.params.toList ++ Rows.faultMoreSpec.plain.varTypes Tryd.prog) (ds ++ gs)).all (· ≤ reachBytes) = true) :
    Calls Tryd.prog 3 args W fun e W' => ∃ v, e = .returned v ∧ Rows.faultMoreSpec.post enc Tryd.prog Tryd.f3 false true false false W args v W' := by
  have hW' := hW
  obtain ⟨p, q, hA0, hV, rfl, hfz, hnd⟩ := hW
  have hA : DataW.TrodAll enc Tryd.prog W 0 (fun _ => true) true Tryd.f3.params.toList args.toList ds p := hA0
  rw [Tryd.params3] at hA hval
  obtain ⟨v0, vs0, d0, ds0, p0, q0, hargs, rfl, rfl, h0, r0⟩ := trodAll_cons hA
  obtain ⟨v1, vs1, d1, ds1, p1, q1, rfl, rfl, rfl, h1, r1⟩ := trodAll_cons r0
  obtain ⟨v2, vs2, d2, ds2, p2, q2, rfl, rfl, rfl, h2, r2⟩ := trodAll_cons r1
  obtain ⟨rfl, rfl, rfl⟩ := trodAll_nil r2
  obtain rfl : args = #[v0, v1, v2] := by cases args; simp_all
  obtain ⟨rfl, rfl⟩ := trodVars_none hV
  have k0 := h0
  have k1 := h1
  have k2 := h2
  have lt0 : ∀ x ∈ p0, x.block < W.heap.size := by obtain ⟨m, hm⟩ := k0; exact DataW.trod_lt m _ _ _ hm
  have lt1 : ∀ x ∈ p1, x.block < W.heap.size := by obtain ⟨m, hm⟩ := k1; exact DataW.trod_lt m _ _ _ hm
  have lt2 : ∀ x ∈ p2, x.block < W.heap.size := by obtain ⟨m, hm⟩ := k2; exact DataW.trod_lt m _ _ _ hm
  obtain ⟨tab, ht⟩ := tab_of_shaped hsh
  have hg := gt_of_laid hL
  have hwalk : Calls Tryd.prog 3 #[v0, v1, v2] W fun e W' => e = .returned (.bool true) ∧ Below W.heap.size W W' := by
    obtain ⟨e, rfl, _, _, we⟩ := open_int Tryd.underlying22 (hval 0 22 v0 rfl rfl) h0
    obtain ⟨a, len, cap, rfl⟩ := okWide_slice Tryd.underlying23 (hval 1 23 v1 rfl rfl)
    obtain ⟨c0, c1, y0, y1, m, rfl, _, _, hy0, hy1⟩ := Joins.open_agg2 Tryd.underlying25 (by kernel_rfl) cells25 (hval 2 25 v2 rfl rfl) h2
    obtain ⟨sw, e0, _, hsw⟩ := DataW.trod_string Tryd.underlying9 hy0
    obtain ⟨sn, e1, _, wsn⟩ := DataW.trod_int Tryd.underlying3 hy1
    simp at e0 e1
    subst e0 e1
    obtain ⟨l, ⟨hlen, hmax⟩, hrd, hss, hii⟩ : ∃ l : List (ByteArray × Int), (l.length = len ∧ len ≤ 9223372036854775807) ∧ RdS W a l ∧ (∀ x ∈ l, x.1.size ≤ 9223372036854775807) ∧ (∀ x ∈ l, i64ok x.2) := by
      obtain ⟨fuel, hf⟩ := h1
      rcases open_slice_pairs Tryd.underlying23 Tryd.underlying25 cells25 rfl rfl (by kernel_rfl) (by kernel_rfl) hf with ⟨hcs, _⟩ | ⟨x, l0, cp, mm, n, V0, V1, D0, D1, P0, P1, hcs, _, hl, hm, hmm, _, hcell⟩
      · simp [Value.cells] at hcs
        obtain ⟨rfl, rfl, rfl⟩ := hcs
        exact ⟨[], ⟨rfl, by omega⟩, fun i hi => by simp at hi, fun x hx => by simp at hx, fun x hx => by simp at hx⟩
      · simp [Value.cells] at hcs
        obtain ⟨rfl, rfl, rfl⟩ := hcs
        have hlm : len ≤ mm := by rw [hmm]; split <;> omega
        have hs : ∀ i, i < len → ∃ s : ByteArray, V0 i = .string s ∧ s.size ≤ 9223372036854775807 := fun i hi => by
          obtain ⟨s, h1, _, h2⟩ := DataW.trod_string Tryd.underlying9 (hcell i (by omega)).2.2.1
          simp at h1
          exact ⟨s, h1, by unfold maxLen at h2; omega⟩
        have hn : ∀ i, i < len → ∃ s : Int, V1 i = .int .i64 s ∧ i64ok s := fun i hi => by
          obtain ⟨s, h1, _, h2⟩ := DataW.trod_int Tryd.underlying3 (hcell i (by omega)).2.2.2
          simp at h1
          exact ⟨s, h1, wf_ok h2⟩
        refine ⟨(List.range len).map fun i => (strOf (V0 i), numOf (V1 i)), ⟨by simp, by unfold maxLen at hm; omega⟩, fun i hi => ?_, fun x hx => ?_, fun x hx => ?_⟩
        · have hi' : i < len := by simpa using hi
          obtain ⟨s, hs1, _⟩ := hs i hi'
          obtain ⟨n', hn1, _⟩ := hn i hi'
          have h0 := (hcell i (by omega)).1
          have h1 := (hcell i (by omega)).2.1
          obtain ⟨hx, hbl⟩ := addr_plain (hcell 0 (by omega)).1
          rw [hx, Lib.add_plain] at h0 h1
          refine ⟨x.block, x.off, by rw [← hx], hbl, ?_, ?_⟩
          · simp only [List.getElem_map, List.getElem_range]
            rw [hs1] at h0 ⊢
            exact h0
          · simp only [List.getElem_map, List.getElem_range]
            rw [hn1] at h1 ⊢
            exact h1
        · obtain ⟨i, hi, rfl⟩ := List.mem_map.1 hx
          obtain ⟨s, hs1, hs2⟩ := hs i (List.mem_range.1 hi)
          simp only [hs1, strOf]; exact hs2
        · obtain ⟨i, hi, rfl⟩ := List.mem_map.1 hx
          obtain ⟨s, hs1, hs2⟩ := hn i (List.mem_range.1 hi)
          simp only [hs1, numOf]; exact hs2
    subst hlen
    by_cases hgr : 20000 ≤ grN 0 l ∨ 1000 < sw.size ∨ e = 0
    · exact law_great tab e a cap l sw sn W hg ht hmax hss (by unfold maxLen at hsw; omega) hrd hgr
    · exact law_main tab e a cap l sw sn W hg ht hss hrd hii (wf_ok we) (wf_ok wsn) (fun h => hgr (.inl h)) (fun h => hgr (.inr (.inl h))) (by simp; exact fun h => hgr (.inr (.inr h)))
  refine hwalk.mono fun e W' ⟨he, bel⟩ => ?_
  subst he
  exact ⟨_, rfl, _, _, _, [], _, [], hW', trodAll_mk1 (shut_bool Tryd.underlying4 _),
    (trodAll_cons_mk (Below.trod laidOut (by kernel_rfl) (of_decide_eq_true (by kernel_rfl)) k0 bel lt0) (trodAll_cons_mk (Below.trod laidOut (by kernel_rfl) (of_decide_eq_true (by kernel_rfl)) k1 bel lt1) (trodAll_cons_mk (Below.trod laidOut (by kernel_rfl) (of_decide_eq_true (by kernel_rfl)) k2 bel lt2) trodAll_mk0))), rfl, bel.frame _, fun h => by cases h⟩

/-- a world for the witness: the settled one, the variable holding its handle -/
noncomputable def laidWorld (os : Os) : World :=
  { World.holding Tryd.prog os ⟨#[], #[], []⟩ with heap := (World.holding Tryd.prog os ⟨#[], #[], []⟩).heap.modify 0 fun
      | .cells _ t frozen => .cells #[.iface 56 (.agg #[.pointer (some ⟨4, 29, none⟩)])] t frozen
      | o => o }
theorem laid_met (os : Os) : laidMetH Tryd.prog Rows.faultMoreRow.laid ((laidWorld os).forCall (fun _ _ => 0) ⟨#[], #[.int .i64 0, .slice none 0 0, .agg #[.string ByteArray.empty, .int .i64 0]], []⟩).memory :=
  laidMetH_of_parts (laidMet_nil _ _) (by kernel_rfl)
theorem reads (os : Os) {H : Type} (enc : TypeId × Value → H) : ∃ places, DataW.whole enc Tryd.prog ((laidWorld os).forCall (fun _ _ => 0) ⟨#[], #[.int .i64 0, .slice none 0 0, .agg #[.string ByteArray.empty, .int .i64 0]], []⟩).memory Tryd.f3.params.toList Rows.faultMoreSpec.vars false #[Value.int .i64 0, Value.slice none 0 0, .agg #[.string ByteArray.empty, .int .i64 0]].toList 8 = some ([.lit (.int .i64 0), .nil, .agg [.lit (.string []), .lit (.int .i64 0)]], [], places) :=
  ⟨[], by kernel_rfl⟩

set_option maxRecDepth 100000 in
theorem lifted (os : Os) (started : os.Started) (H : Type) (enc : TypeId × Value → H) (F : Stop.Interp) :
    ReturnsInHanded {} Tryd.checked os 3 .any ((OpenSpec.ofChange Rows.faultMoreSpec).preRow enc Tryd.prog Tryd.f3 Rows.faultMoreRow.domain false Rows.faultMoreRow.laid) (((OpenSpec.ofChange Rows.faultMoreSpec).at F).post enc Tryd.prog Tryd.f3 false true false false) := by
  obtain ⟨places, hx⟩ := reads os enc
  refine returnsInHanded_of_row (C := Tryd.checked) (s := OpenSpec.ofChange Rows.faultMoreSpec) own started (by kernel_rfl) Tryd.func3
    (witness_row_at (enc := enc) (C := Tryd.checked) false (laidWorld os) #[.int .i64 0, .slice none 0 0, .agg #[.string ByteArray.empty, .int .i64 0]] rfl (by kernel_rfl) (by kernel_rfl) (by kernel_rfl)
      (OpenSpec.preRow_of_cond 8 hx (by kernel_rfl) (fun k hk => by cases hk) (by kernel_rfl) (laid_met os))) ?_
  intro W base args ds gs before hval hW _ _ hsz hL hsh _
  exact contract H enc W base args ds gs before hval hW hL hsh hsz

theorem said : Rows.FaultMoreSaid :=
  OpenClaim.holds_of_cond 3 Tryd.f3 rfl rfl rfl rfl rfl rfl rfl ⟨rfl, rfl, rfl, rfl, rfl⟩ rfl rfl rfl rfl rfl (by kernel_rfl) Tryd.func3 (by kernel_rfl)
    (of_decide_eq_true (by kernel_rfl)) (by unfold Func.isWrapper; first | (rw [if_pos (by decide +kernel)]; kernel_rfl) | (rw [if_neg (by decide +kernel)]; exact ⟨rfl, rfl⟩))
    (fun os started H enc _ F => by rw [OpenClaim.pre_eq_preRow]; exact lifted os started H enc F)

theorem plain (f : FuncId) (fn : Func) (hf : Tryd.pinned.checked.prog.funcNamed "cohort/cohortlaw01.FaultMore" = some f) (hfn : Tryd.pinned.checked.prog.funcs[f]? = some fn) :
    true = Tryd.pinned.checked.prog.looks [] ∧ ∀ (j : Nat) t, fn.params[j]? = some t → Tryd.pinned.checked.prog.wantsStandIn t = false := by
  obtain rfl : f = 3 := Option.some.inj ((show Tryd.prog.funcNamed "cohort/cohortlaw01.FaultMore" = some 3 by kernel_rfl).symm.trans hf) |>.symm
  obtain rfl : fn = Tryd.f3 := (Option.some.inj (Tryd.func3.symm.trans hfn)).symm
  refine ⟨by kernel_rfl, fun j t ht => ?_⟩
  rw [Tryd.params3] at ht
  rcases j with _ | _ | _ | j
  · obtain rfl : t = 22 := by simpa using ht.symm
    exact (show Tryd.prog.wantsStandIn 22 = false by kernel_rfl)
  · obtain rfl : t = 23 := by simpa using ht.symm
    exact (show Tryd.prog.wantsStandIn 23 = false by kernel_rfl)
  · obtain rfl : t = 25 := by simpa using ht.symm
    exact (show Tryd.prog.wantsStandIn 25 = false by kernel_rfl)
  · simp at ht

theorem card : Rows.FaultMoreCardSaid :=
  Claim7.holds_tied_plain_at .later [] _ _ _ _ said (fun _ h => by cases h) (by kernel_rfl) (fun _ h => by cases h) faultMore_row_tie rfl ⟨rfl, rfl⟩ (by kernel_rfl) rfl plain (by kernel_rfl)
#print axioms card
end Go.Proofs.YtcaieekbalmghaaDoor.FM
