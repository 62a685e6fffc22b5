/- The walks of package date: civil, Civil, days, long, wide. -/
import Derived.Test.YtfhdnppcookcoaaDoorText2
import Derived.Test.YtfhdnppcookcoaaDoorDate0
namespace Go.Proofs.YtfhdnppcookcoaaDoor
open Go.RowKit Go.PlainAid
set_option linter.unusedVariables false
set_option linter.unusedSimpArgs false
theorem within_any (n : Int) (w : World) (h0 : -9223372036854775808 ≤ n) (h1 : n ≤ 9223372036854775807) : Calls Tryd.prog 27 #[.int .i64 n] w fun e w' => e = .returned (.int .i64 (max 0 (min n 253402300799))) ∧ w = w' := by
  go_enter Tryd.func27, Tryd.ntmps27
  go_wp2
  go_ret
  exact ⟨rfl, rfl⟩
def CivEnd (v : Int × Int × Int) (w : World) (e : Ending) (w' : World) : Prop := e = .returned (.tuple #[.int .i64 v.1, .int .i64 v.2.1, .int .i64 v.2.2]) ∧ w = w'
theorem civil_any (n : Int) (w : World) (h0 : 0 ≤ n) (h1 : n ≤ 3000000) : Calls Tryd.prog 28 #[.int .i64 n] w (CivEnd (civ n) w) := by
  obtain ⟨p1, p2, p3, p4, _⟩ := civ_parts n h0
  have p5 : 0 ≤ civM n ∧ civM n ≤ 11 := by unfold civM; omega
  obtain ⟨p5, p6⟩ := p5
  obtain ⟨v, hv⟩ : ∃ v, v = civ n := ⟨_, rfl⟩
  rw [← hv]
  unfold civ at hv
  by_cases h12 : 12 < civM n + 3
  · rw [if_pos h12] at hv
    unfold civM at p5 p6 h12 hv
    unfold civR at p1 p2 p5 p6 h12 hv
    unfold civY at p1 p2 p3 p4 p5 p6 h12 hv
    have HV := Lib.hid hv
    clear hv
    go_enter Tryd.func28, Tryd.ntmps28
    go_wp2
    go_ret3
    exact ⟨by rw [HV.out]; rfl, rfl⟩
  · rw [if_neg h12] at hv
    unfold civM at p5 p6 h12 hv
    unfold civR at p1 p2 p5 p6 h12 hv
    unfold civY at p1 p2 p3 p4 p5 p6 h12 hv
    have HV := Lib.hid hv
    clear hv
    go_enter Tryd.func28, Tryd.ntmps28
    go_wp2
    go_ret3
    exact ⟨by rw [HV.out]; rfl, rfl⟩
theorem results_tmp6 {fn : Func} {a b c d e f : Tmp} (h : fn.results = #[.tmp a, .tmp b, .tmp c, .tmp d, .tmp e, .tmp f]) (tmps : Array Value) (P : Program) (w : World) :
    (results fn tmps).run P w = .ok (.tuple #[tmps.getD a undef, tmps.getD b undef, tmps.getD c undef, tmps.getD d undef, tmps.getD e undef, tmps.getD f undef]) w := by
  simp [results, h]
def secs (n : Int) : Int := max 0 (min n 253402300799)
theorem secs_le (n : Int) : 0 ≤ secs n ∧ secs n ≤ 253402300799 := by unfold secs; omega
def Civ6End (v : Int × Int × Int) (s : Int) (w : World) (e : Ending) (w' : World) : Prop := e = .returned (.tuple #[.int .i64 v.1, .int .i64 v.2.1, .int .i64 v.2.2, .int .i64 (s / 3600), .int .i64 (s / 60 % 60), .int .i64 (s % 60)]) ∧ w = w'
theorem Civil_any (n : Int) (w : World) (h0 : -9223372036854775808 ≤ n) (h1 : n ≤ 9223372036854775807) : Calls Tryd.prog 11 #[.int .i64 n] w (Civ6End (civ (secs n / 86400)) (secs n % 86400) w) := by
  obtain ⟨s0, s1⟩ := secs_le n
  obtain ⟨S, hS⟩ : ∃ S, S = secs n := ⟨_, rfl⟩
  rw [← hS] at s0 s1 ⊢
  have HW : Hid (∀ w, Calls Tryd.prog 27 #[.int .i64 n] w fun e w' => e = .returned (.int .i64 S) ∧ w = w') := fun w => by rw [hS]; exact within_any n w h0 h1
  have HC : Hid (∀ w, Calls Tryd.prog 28 #[.int .i64 (S / 86400)] w (CivEnd (civ (S / 86400)) w)) := fun w => civil_any _ w (by omega) (by omega)
  obtain ⟨v, hv⟩ : ∃ v, v = civ (S / 86400) := ⟨_, rfl⟩
  rw [← hv] at HC ⊢
  obtain ⟨y, m, d⟩ := v
  clear hS hv
  go_enter Tryd.func11, Tryd.ntmps11
  go_wp2_with fail
  refine (HW.out _).mono ?_; rintro e w1 ⟨rfl, hw⟩; obtain rfl : _ = w1 := hw
  go_wp2_with fail
  refine (HC.out _).mono ?_; rintro e w1 ⟨rfl, hw⟩; obtain rfl : _ = w1 := hw
  go_wp2
  ((try simp only [Exit.inBlock, Exit.then]); refine bodyPost_ret (results_tmp6 rfl _ _ _) rfl ?_)
  exact ⟨rfl, rfl⟩
def daysV (y m d : Int) : Int :=
  let y1 := if m ≤ 2 then y - 1 else y
  ((y1 + 400) / 400 - 1) * 146097 + (y1 + 400 - (y1 + 400) / 400 * 400) * 365 + (y1 + 400 - (y1 + 400) / 400 * 400) / 4 - (y1 + 400 - (y1 + 400) / 400 * 400) / 100 + (153 * ((m + 9) % 12) + 2) / 5 + d - 1 - 719468
theorem days_any (y m d : Int) (w : World) (h0 : 0 ≤ y) (h1 : y ≤ 100000) (m0 : 1 ≤ m) (m1 : m ≤ 12) (d0 : 0 ≤ d) (d1 : d ≤ 1000000000000) : Calls Tryd.prog 43 #[.int .i64 y, .int .i64 m, .int .i64 d] w fun e w' => e = .returned (.int .i64 (daysV y m d)) ∧ w = w' := by
  obtain ⟨v, hv⟩ : ∃ v, v = daysV y m d := ⟨_, rfl⟩
  rw [← hv]
  unfold daysV at hv
  by_cases h2 : m ≤ 2
  · rw [if_pos h2] at hv
    have HV := Lib.hid hv
    clear hv
    go_enter Tryd.func43, Tryd.ntmps43
    go_wp2
    go_ret
    exact ⟨by rw [HV.out]; rfl, rfl⟩
  · rw [if_neg h2] at hv
    have HV := Lib.hid hv
    clear hv
    go_enter Tryd.func43, Tryd.ntmps43
    go_wp2
    go_ret
    exact ⟨by rw [HV.out]; rfl, rfl⟩
/-- zeros ahead of a number's digits, up to k of them -/
def wideS (n k : Int) : ByteArray := ⟨(Lib.repeatL [48] (max 0 (k - ((digS n).size : Int))).toNat).toArray⟩ ++ digS n
theorem wide_any (n k : Int) (w : World) (hT : TabOK w) (h0 : 0 ≤ n) (h1 : n ≤ 1000000) (k0 : 0 ≤ k) (k1 : k ≤ 10) : Calls Tryd.prog 30 #[.int .i64 n, .int .i64 k] w fun e w' => e = .returned (.string (wideS n k)) ∧ Below w.heap.size w w' := by
  have hW := Below.refl w.heap.size w
  have hsz := itoa_len n h0 (by omega)
  obtain ⟨S, hS⟩ : ∃ S, S = digS n := ⟨_, rfl⟩
  obtain ⟨c, hc⟩ : ∃ c : Nat, max 0 (k - (S.size : Int)) = c := Int.eq_ofNat_of_zero_le (by omega)
  obtain ⟨Z, hZ⟩ : ∃ Z : ByteArray, Z = ⟨(Lib.repeatL [48] c).toArray⟩ := ⟨_, rfl⟩
  have hZs : Z.size = c := by rw [hZ]; show (Lib.repeatL [48] c).toArray.size = c; simp [Lib.repeatL_length]
  have hv : wideS n k = Z ++ S := by unfold wideS; rw [hZ, ← hS, hc, Int.toNat_natCast]
  rw [hv]
  rw [← hS] at hsz
  have HD : Hid (∀ w, TabOK w → Calls Tryd.prog 29 #[.int .i64 n] w fun e w' => e = .returned (.string S) ∧ Below w.heap.size w w') := fun w hT => by rw [hS]; exact digits_any n w (by omega) (by omega) hT
  have HR : Hid (∀ w, Calls Tryd.prog 46 #[.string ⟨#[48]⟩, .int .i64 c] w fun e w' => e = .returned (.string Z) ∧ Below w.heap.size w w') := fun w => by
    rw [hZ]
    exact Tryd.strings_Repeat ⟨#[48]⟩ c w (by omega) (by rw [show (⟨#[48]⟩ : ByteArray).size = 1 from rfl]; omega)
  clear hv hS hZ
  go_enter Tryd.func30, Tryd.ntmps30
  go_wp2_with fail
  refine (HD.out _ (hT.below hW)).mono ?_; rintro e w1 ⟨rfl, hw1⟩; (first | replace hW := nextB hW hw1 | replace hW := nextA hW hw1 | replace hW := nextB hW.drew hw1 | replace hW := nextAA hW hw1 | replace hW := nextAD hW hw1); clear hw1
  go_wp2_with fail
  refine (HR.out _).mono ?_; rintro e w1 ⟨rfl, hw1⟩; (first | replace hW := nextB hW hw1 | replace hW := nextA hW hw1 | replace hW := nextB hW.drew hw1 | replace hW := nextAA hW hw1 | replace hW := nextAD hW hw1); clear hw1
  go_wp2
  go_ret
  exact ⟨rfl, hW⟩
end Go.Proofs.YtfhdnppcookcoaaDoor
