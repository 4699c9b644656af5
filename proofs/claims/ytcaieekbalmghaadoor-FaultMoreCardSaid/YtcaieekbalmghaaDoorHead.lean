/- the law's head: it is true, whatever the table of powers of ten holds (its numbers have at most two digits). -/
import Derived.Test.YtcaieekbalmghaaDoorSmall
namespace Go.Proofs.YtcaieekbalmghaaDoor
open Go.RowKit Go.Extern.Stop Go.Stop Go.Extern

def textB : ByteArray := ⟨#[116, 101, 120, 116]⟩
def headB : ByteArray := ⟨#[116, 101, 120, 116, 32, 55, 58, 32, 99, 111, 104, 111, 114, 116, 58, 32, 101, 114, 114, 111, 114, 32, 50, 49]⟩
theorem dec7 : Lib.decDigits 7 = [55] := by decide +kernel
theorem dec21 : Lib.decDigits 21 = [50, 49] := by decide +kernel
theorem head_text (tab : Nat → Int) : errB tab 21 [(textB, 7)] = headB := by
  have e7 : itoaB tab 7 = ⟨#[55]⟩ := by
    unfold itoaB fmtI
    rw [if_pos (by omega), show (7 : Int).toNat = 7 from rfl, dec7]
  have e21 : itoaB tab 21 = ⟨#[50, 49]⟩ := by
    unfold itoaB fmtI
    rw [if_pos (by omega), show (21 : Int).toNat = 21 from rfl, dec21]
  simp only [errB, e7, e21]
  decide +kernel

theorem headB_list : headB.toList = [116, 101, 120, 116, 32, 55, 58, 32, 99, 111, 104, 111, 114, 116, 58, 32, 101, 114, 114, 111, 114, 32, 50, 49] := by decide +kernel

set_option maxHeartbeats 1000000 in
set_option maxRecDepth 100000 in
theorem head4 (tab : Nat → Int) (w : World) (hg : Gt w) (ht : Tab tab w) :
    Calls Tryd.prog 4 #[] w fun r w' => r = .returned (.bool true) ∧ Below w.heap.size w w' := by
  have HG := Lib.hid hg
  have HT := Lib.hid ht
  clear hg ht
  have hw := wrap7 21 [] textB 7
  have ho := of_some 21 rfl
  have HW := Lib.hid hw
  have HO := Lib.hid ho
  clear hw ho
  go_enter Tryd.func4, Tryd.ntmps4
  go_wp2_with fail
  refine (HO.out _).mono ?_
  rintro r w' ⟨rfl, rfl⟩
  go_wp2_with fail
  refine (HW.out _).mono ?_
  rintro r w' ⟨rfl, rfl⟩
  go_wp2_with fail
  refine (code11 21 [(textB, 7)] _ HG.out).mono ?_
  rintro r w1 ⟨rfl, hb1⟩
  have HB1 := Lib.hid hb1
  clear hb1
  have htx := text9 tab 21 ⟨by omega, by omega⟩ [(textB, 7)] (by intro x hx; simp at hx; subst hx; exact ⟨by decide, by decide⟩) (by rw [head_text]; decide) w1 (tab_below HT.out HB1.out)
  rw [head_text] at htx
  have HTX := Lib.hid htx
  clear htx
  go_wp2_with fail
  refine HTX.out.mono ?_
  rintro r w2 ⟨rfl, hb2⟩
  have HB2 := Lib.hid (HB1.out.trans (hb2.mono HB1.out.size))
  clear hb2
  have hh : headB.toList = [116, 101, 120, 116, 32, 55, 58, 32, 99, 111, 104, 111, 114, 116, 58, 32, 101, 114, 114, 111, 114, 32, 50, 49] := headB_list
  go_wp2_with fail
  refine (trail8 21 [(textB, 7)] (by simp) _ (gt_below HG.out HB2.out (gt_lt HG.out))).mono ?_
  rintro r w3 ⟨v, rfl, hown, hb3⟩
  obtain ⟨a, cap, rfl, _⟩ := own_rds hown
  have HB3 := Lib.hid (HB2.out.trans (hb3.mono HB2.out.size))
  clear hb3 hown
  go_wp2_with fail
  refine (of_zero _).mono ?_
  rintro r w' ⟨rfl, rfl⟩
  go_wp2_with fail
  refine (code_nil _).mono ?_
  rintro r w4 ⟨rfl, hb4⟩
  have HB4 := Lib.hid (HB3.out.trans (hb4.mono HB3.out.size))
  clear hb4
  go_wp2_with fail
  go_ret
  exact ⟨rfl, HB4.out⟩
end Go.Proofs.YtcaieekbalmghaaDoor
