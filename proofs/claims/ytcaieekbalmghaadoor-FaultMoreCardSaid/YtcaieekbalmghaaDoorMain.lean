/- the law FaultMore: the walk where it is not too great. -/
import Derived.Test.YtcaieekbalmghaaDoorLaw
namespace Go.Proofs.YtcaieekbalmghaaDoor
open Go.RowKit Go.Extern.Stop Go.Stop Go.Extern

/-- what the last statement reads, in a world -/
def KS (w : World) (gb offb : Nat) (A aa : Option Addr) (sw : ByteArray) (sn : Int) (tr : List (ByteArray × Int)) (W : World) : Prop :=
  Blk W w.heap.size 25 #[.string sw, .int .i64 sn] ∧ gb < W.heap.size ∧ W.cell? ⟨gb, offb, none⟩ = some (.string sw) ∧ W.cell? ⟨gb, offb + 1, none⟩ = some (.int .i64 sn) ∧ Gt W ∧ RdS W A tr ∧ RdS W aa tr ∧ Below w.heap.size w W
theorem KS.below {w : World} {gb offb : Nat} {A aa : Option Addr} {sw : ByteArray} {sn : Int} {tr : List (ByteArray × Int)} {W W' : World} (h : KS w gb offb A aa sw sn tr W) (hb : Below W.heap.size W W') : KS w gb offb A aa sw sn tr W' := by
  obtain ⟨h1, h2, h3, h4, h5, h6, h7, h8⟩ := h
  exact ⟨h1.below hb h1.lt, Nat.lt_of_lt_of_le h2 hb.size, by rw [hb.cell (p := ⟨gb, offb, none⟩) h2]; exact h3, by rw [hb.cell (p := ⟨gb, offb + 1, none⟩) h2]; exact h4, gt_below h5 hb (gt_lt h5), h6.below hb, h7.below hb, h8.trans (hb.mono h8.size)⟩
theorem KS.drew {w : World} {gb offb : Nat} {A aa : Option Addr} {sw : ByteArray} {sn : Int} {tr : List (ByteArray × Int)} {W : World} (h : KS w gb offb A aa sw sn tr W) : KS w gb offb A aa sw sn tr W.drew := h.below (Below.refl _ _).drew
theorem KS.cells {w : World} {gb offb : Nat} {A aa : Option Addr} {sw : ByteArray} {sn : Int} {tr : List (ByteArray × Int)} {W : World} (h : KS w gb offb A aa sw sn tr W) :
    W.cell? ⟨w.heap.size, 0, none⟩ = some (.string sw) ∧ W.cell? ⟨w.heap.size, 1, none⟩ = some (.int .i64 sn) ∧ W.cell? ⟨gb, offb, none⟩ = some (.string sw) ∧ W.cell? ⟨gb, offb + 1, none⟩ = some (.int .i64 sn) ∧ KS w gb offb A aa sw sn tr W :=
  ⟨by rw [h.1.cell 0]; rfl, by rw [h.1.cell 1]; rfl, h.2.2.1, h.2.2.2.1, h⟩
theorem ksOf {w : World} {gb offb : Nat} {A aa : Option Addr} {sw : ByteArray} {sn : Int} {tr : List (ByteArray × Int)} {W : World}
    (h : W.cell? ⟨w.heap.size, 0, none⟩ = some (.string sw) ∧ W.cell? ⟨w.heap.size, 1, none⟩ = some (.int .i64 sn) ∧ W.cell? ⟨gb, offb, none⟩ = some (.string sw) ∧ W.cell? ⟨gb, offb + 1, none⟩ = some (.int .i64 sn) ∧ KS w gb offb A aa sw sn tr W) : KS w gb offb A aa sw sn tr W := h.2.2.2.2

set_option maxHeartbeats 4000000 in
set_option maxRecDepth 100000 in
theorem law_main (tab : Nat → Int) (e : Int) (a : Option Addr) (cap : Nat) (l : List (ByteArray × Int)) (sw : ByteArray) (sn : Int) (w : World) (hg : Gt w) (ht : Tab tab w)
    (hs : ∀ x ∈ l, x.1.size ≤ 9223372036854775807) (hr : RdS w a l) (hi : ∀ x ∈ l, i64ok x.2) (he : i64ok e) (hsn : i64ok sn)
    (h1 : ¬ 20000 ≤ grN 0 l) (h2 : ¬ 1000 < sw.size) (h3 : (e == 0) = false) :
    Calls Tryd.prog 3 #[.int .i64 e, .slice a l.length cap, .agg #[.string sw, .int .i64 sn]] w fun r w' => r = .returned (.bool true) ∧ Below w.heap.size w w' := by
  have hsm := grN_small l 0 (by omega)
  have hl : l.length ≤ 2000 := by omega
  have HG := Lib.hid (gt_alloc hg (.cells #[.string sw, .int .i64 sn] 25))
  have HT := Lib.hid (tab_alloc ht (.cells #[.string sw, .int .i64 sn] 25))
  have HR := Lib.hid (hr.below ((Below.refl _ _).alloc (Nat.le_refl _) (.cells #[.string sw, .int .i64 sn] 25)))
  have HS := Lib.hid hs
  have HB0 := Lib.hid ((Below.refl w.heap.size w).alloc (Nat.le_refl _) (.cells #[.string sw, .int .i64 sn] 25))
  have HBL := Lib.hid (show Blk (w.alloc (.cells #[.string sw, .int .i64 sn] 25)) w.heap.size 25 #[.string sw, .int .i64 sn] from heap_alloc_new _ _)
  have HI := Lib.hid hi
  have HE := Lib.hid he
  have HSN := Lib.hid hsn
  have HSM := Lib.hid hsm
  have HOF := Lib.hid (of_some e h3)
  have hd : decide (20000 ≤ grN 0 l) = false := decide_eq_false h1
  have HD := Lib.hid hd
  clear hg ht hr hs hi he hsn hsm h1 hd
  go_enter Tryd.func3, Tryd.ntmps3
  go_wp2_with fail
  refine (head4 tab _ HG.out HT.out).mono ?_
  rintro r w1 ⟨rfl, hb1⟩
  have HB1 := Lib.hid hb1
  have c0 := (HBL.out.below hb1 HBL.out.lt).cell 0
  simp only [List.getElem?_toArray, List.getElem?_cons_zero] at c0
  have HBL1 := Lib.hid (HBL.out.below hb1 HBL.out.lt)
  clear hb1
  go_wp2_with fail
  refine (great5 a cap l w1 (by omega) HS.out (HR.out.below HB1.out)).mono ?_
  rintro r w' ⟨rfl, rfl⟩
  rw [HD.out]
  go_wp2_with fail
  refine (HOF.out _).mono ?_
  rintro r w' ⟨rfl, rfl⟩
  go_wp2_with fail
  go_loopw [8, 9] (fun ve vi wr => ∃ k : Nat, vi = .int .i64 k ∧ k ≤ l.length ∧ ve = errV e (l.take k).reverse ∧ Hid (Below w1.heap.size w1 wr)) (fun _ vi _ => l.length - (intOf vi).toNat)
  case atStart => exact ⟨0, rfl, Nat.zero_le _, rfl, Below.refl _ _⟩
  case round =>
    obtain ⟨k, rfl, hk, rfl, HBE⟩ := hrel
    by_cases hlt : k < l.length
    · obtain ⟨b, off, ha, hbl, d0, d1⟩ := ((HR.out.below HB1.out).below HBE.out) k hlt
      subst ha
      have hst : errV e ((l[k].1, l[k].2) :: (l.take k).reverse) = errV e (l.take (k + 1)).reverse := by
        rw [List.take_succ_eq_append_getElem hlt, List.reverse_append]; rfl
      have HST := Lib.hid hst
      clear hst c0
      generalize l[k].1 = sk at d0 HST
      generalize l[k].2 = nk at d1 HST
      generalize (l.take k).reverse = tr at HST
      go_wp2
      go_quiet ((go_at_call 7; exact Calls.quiet_of_same (wrap7q _ _ _ _ _)))
      go_wp2
      go_roundw
      case rel => exact ⟨k + 1, by go_num, by omega, HST.out, below_drewN HBE.out _⟩
      case measure => simp [intOf]; omega
    · have hkl : (l.take k).reverse = l.reverse := by rw [List.take_of_length_le (by omega)]
      rw [hkl]
      clear hkl c0
      have c0 := (HBL1.out.below HBE.out HBL1.out.lt).cell 0
      have c1 := (HBL1.out.below HBE.out HBL1.out.lt).cell 1
      simp only [List.getElem?_toArray, List.getElem?_cons_zero, List.getElem?_cons_succ] at c0 c1
      have hlr : l.reverse.length = l.length := List.length_reverse
      have HLR := Lib.hid hlr
      have HI2 : Hid (∀ x ∈ l.reverse, i64ok x.2) := fun x hx => HI.out x (by simpa using hx)
      have hsz2 : (errB tab e l.reverse).size ≤ 100000 := by
        have q1 := errB_size tab e HE.out l.reverse HI2.out
        have q2 := HSM.out
        rw [sumW_reverse, hlr] at q1
        omega
      have HSZ2 := Lib.hid hsz2
      have HB2 := Lib.hid (HB0.out.trans ((HB1.out.trans (HBE.out.mono HB1.out.size)).mono (by simp)))
      have HG2 := Lib.hid (gt_below (gt_below HG.out HB1.out (gt_lt HG.out)) HBE.out (by have := gt_lt HG.out; have := HB1.out.size; omega))
      have HT2 := Lib.hid (tab_below (tab_below HT.out HB1.out) HBE.out)
      have HBL2 := Lib.hid (HBL1.out.below HBE.out HBL1.out.lt)
      clear hlr hsz2
      generalize l.reverse = tr at HLR HI2 HSZ2
      go_wp2_with fail
      refine (wrap7 e tr sw sn _).mono ?_
      rintro r w' ⟨rfl, rfl⟩
      go_wp2_with fail
      refine (trail8 e tr (by rw [HLR.out]; omega) _ HG2.out).mono ?_
      rintro r w2 ⟨va, rfl, hown, hb2⟩
      obtain ⟨aa, ca, hva, hra⟩ := own_rds hown
      rw [HLR.out] at hva
      subst hva
      have HRA := Lib.hid hra
      have HB3 := Lib.hid (HB2.out.trans (hb2.mono HB2.out.size))
      have HG3 := Lib.hid (gt_below HG2.out hb2 (gt_lt HG2.out))
      have HT3 := Lib.hid (tab_below HT2.out hb2)
      have HBL3 := Lib.hid (HBL2.out.below hb2 HBL2.out.lt)
      clear hra hb2 hown c0 c1
      go_wp2_with fail
      refine (trail8 e ((sw, sn) :: tr) (by rw [List.length_cons, HLR.out]; omega) _ HG3.out).mono ?_
      rintro r w3 ⟨vb, rfl, hown, hb3⟩
      obtain ⟨ab, cb, hvb, hrb⟩ := own_rds hown
      have hcb : tr.length + 1 ≤ cb := by
        rcases hown.2 with ⟨h, h0⟩ | ⟨g, cap', cur, hv, _, _, hnc, _⟩
        · simp at h0
        · rw [hvb] at hv
          injection hv with _ _ hc
          rw [hc]; simpa using hnc
      obtain ⟨gb, offb, hab, hblt, d0, d1⟩ := hrb 0 (by simp)
      subst hab
      rw [List.length_cons, HLR.out] at hvb
      subst hvb
      simp only [Nat.zero_mul, Nat.add_zero, List.getElem_cons_zero] at d0 d1
      have hrb1 := rds_one cb hcb hrb
      have hsl1 := slice_one gb offb l.length cb
      generalize (if cb = 1 then some (⟨gb, offb, none⟩ : Addr) else some ⟨gb, offb + 2, none⟩) = A at hrb1 hsl1
      have HRB := Lib.hid hrb1
      have HSL := Lib.hid hsl1
      have HRA3 := Lib.hid (HRA.out.below hb3)
      have HB4 := Lib.hid (HB3.out.trans (hb3.mono HB3.out.size))
      have HG4 := Lib.hid (gt_below HG3.out hb3 (gt_lt HG3.out))
      have HT4 := Lib.hid (tab_below HT3.out hb3)
      have HBL4 := Lib.hid (HBL3.out.below hb3 HBL3.out.lt)
      have HD0 := Lib.hid d0
      have HD1 := Lib.hid d1
      clear hrb hb3 hown d0 d1 hcb hrb1 hsl1
      have hx : ∀ x ∈ (sw, sn) :: tr, i64ok x.2 := fun x hx => by
        rcases List.mem_cons.1 hx with rfl | h
        · exact HSN.out
        · exact HI2.out x h
      have hM : errB tab e ((sw, sn) :: tr) = sw ++ (⟨#[32]⟩ ++ itoaB tab sn ++ ⟨#[58, 32]⟩ ++ errB tab e tr) := by simp only [errB, ByteArray.append_assoc]
      have hM2 : errB tab e ((sw, sn) :: tr) = (sw ++ ⟨#[32]⟩ ++ itoaB tab sn ++ ⟨#[58, 32]⟩) ++ errB tab e tr := rfl
      have hsz1 : (errB tab e ((sw, sn) :: tr)).size ≤ 200000 := by
        have q1 := itoaB_size tab sn HSN.out
        have q2 := HSZ2.out
        have e1 : (⟨#[32]⟩ : ByteArray).size = 1 := rfl
        have e2 : (⟨#[58, 32]⟩ : ByteArray).size = 2 := rfl
        rw [hM2]; simp only [ByteArray.size_append, e1, e2]; omega
      have hlt1 : (errB tab e tr).size < (errB tab e ((sw, sn) :: tr)).size := by
        have e1 : (⟨#[32]⟩ : ByteArray).size = 1 := rfl
        rw [hM2]; simp only [ByteArray.size_append, e1]; omega
      have hfrom : ∀ w, (Instr.slice 9 (.string (errB tab e ((sw, sn) :: tr))) (some (.int .i64 (((errB tab e ((sw, sn) :: tr)).size : Int) - ((errB tab e tr).size : Int)))) none none).run Tryd.prog w = .ok (.string (errB tab e tr)) w := fun w => by
        have q := str_from (errB tab e ((sw, sn) :: tr)) ((errB tab e ((sw, sn) :: tr)).size - (errB tab e tr).size) (by omega) w
        rw [show (((errB tab e ((sw, sn) :: tr)).size - (errB tab e tr).size : Nat) : Int) = ((errB tab e ((sw, sn) :: tr)).size : Int) - ((errB tab e tr).size : Int) by omega] at q
        rw [q]
        have q3 : (errB tab e ((sw, sn) :: tr)).size - (errB tab e tr).size = (sw ++ ⟨#[32]⟩ ++ itoaB tab sn ++ ⟨#[58, 32]⟩).size := by rw [hM2, ByteArray.size_append]; omega
        rw [q3, hM2, ext_suf]
      have hto : ∀ w, (Instr.slice 9 (.string (errB tab e ((sw, sn) :: tr))) none (some (.int .i64 (sw.size : Int))) none).run Tryd.prog w = .ok (.string sw) w := fun w => by
        have q := str_to (errB tab e ((sw, sn) :: tr)) sw.size (by rw [hM, ByteArray.size_append]; omega) w
        rw [q, hM, ext_pre]
      have ht1 := text9 tab e HE.out ((sw, sn) :: tr) hx (by omega) w3 HT4.out
      have ht2 := fun W (h : Tab tab W) => text9 tab e HE.out tr HI2.out (by have := HSZ2.out; omega) W h
      clear hM hM2 hx
      generalize hMM : errB tab e ((sw, sn) :: tr) = M at ht1 hfrom hto hsz1 hlt1
      generalize hEE : errB tab e tr = E at ht2 hfrom hlt1
      have HT1 := Lib.hid ht1
      have HT2x := Lib.hid ht2
      clear ht1 ht2 hMM hEE
      go_wp2_with fail
      refine HT1.out.mono ?_
      rintro r w4 ⟨rfl, hb4⟩
      have HB5 := Lib.hid hb4
      clear hb4
      go_wp2_with fail
      refine (HT2x.out _ (tab_below HT4.out HB5.out)).mono ?_
      rintro r w5 ⟨rfl, hb5⟩
      have ks5 : KS w gb offb A aa sw sn tr w5 :=
        KS.below (KS.below ⟨HBL4.out, hblt, HD0.out, HD1.out, HG4.out, HRB.out, HRA3.out, HB4.out⟩ HB5.out) hb5
      have KS5 := Lib.hid ks5.drew.cells
      clear hb5 ks5
      have hwr : IntKind.i64.wrap ((M.size : Int) - (E.size : Int)) = (M.size : Int) - (E.size : Int) := by rw [IntKind.wrap_i64]; omega
      have hgt : decide ((E.size : Int) < (M.size : Int)) = true := by simp; omega
      have hsl := HSL.out
      have hx0 : 0 ≤ (M.size : Int) - (E.size : Int) := by omega
      have hx1 : (M.size : Int) - (E.size : Int) ≤ (M.size : Int) := by omega
      have hsame : ∀ W, KS w gb offb A aa sw sn tr W → Calls Tryd.prog 10 #[.slice A l.length (cb - 1), .slice aa l.length ca] W fun r w' => r = .returned (.bool true) ∧ Below W.heap.size W w' := fun W hK => by
        have q := same10 A aa (cb - 1) ca tr W (by rw [HLR.out]; omega) hK.2.2.2.2.2.1 hK.2.2.2.2.2.2.1
        rw [HLR.out] at q
        exact q
      have HSAME := Lib.hid hsame
      clear hsame
      go_wp2_with fail
      go_region_held3 (fun w' => w'.cell? ⟨w.heap.size, 0, none⟩ = some (.string sw) ∧ w'.cell? ⟨w.heap.size, 1, none⟩ = some (.int .i64 sn) ∧ w'.cell? ⟨gb, offb, none⟩ = some (.string sw) ∧ w'.cell? ⟨gb, offb + 1, none⟩ = some (.int .i64 sn) ∧ KS w gb offb A aa sw sn tr w')
        (first | exact KS5.out | exact (KS.below (ksOf (by assumption)) (by assumption)).cells)
        (first | (go_at_call 10; refine (HSAME.out _ ?hs10).mono ?hk10; (case hs10 => exact ksOf (by assumption)); rintro r w' ⟨rfl, hb⟩) | (go_at_call_of 11 (errV e ((sw, sn) :: tr)); refine (code11 e ((sw, sn) :: tr) _ ?hs11).mono ?hk11; (case hs11 => exact (ksOf (by assumption)).2.2.2.2.1); rintro r w' ⟨rfl, hb⟩) | (go_at_call_of 11 (errV e tr); refine (code11 e tr _ ?hs12).mono ?hk12; (case hs12 => exact (ksOf (by assumption)).2.2.2.2.1); rintro r w' ⟨rfl, hb⟩))
      go_wp2
      go_ret
      exact ⟨rfl, (ksOf (by assumption)).2.2.2.2.2.2.2⟩
end Go.Proofs.YtcaieekbalmghaaDoor
