/- Days of dates; the walk of long. -/
import Derived.Test.YtfhdnppcookcoaaDoorDate1
namespace Go.Proofs.YtfhdnppcookcoaaDoor
open Go.RowKit Go.PlainAid
set_option linter.unusedVariables false
set_option linter.unusedSimpArgs false
theorem ahead_succ0 (y : Int) (h : 0 ≤ y) : ahead (y + 1) = ahead y + 337 + febD y := by
  by_cases e : y = 0
  · subst e; decide +kernel
  · exact ahead_succ y (by omega)
set_option maxHeartbeats 1000000 in
theorem daysV_eq (y m d : Int) (h : 0 ≤ y) (m0 : 1 ≤ m) (m1 : m ≤ 12) : daysV y m d = dayNum y m d := by
  have hc : m = 1 ∨ m = 2 ∨ m = 3 ∨ m = 4 ∨ m = 5 ∨ m = 6 ∨ m = 7 ∨ m = 8 ∨ m = 9 ∨ m = 10 ∨ m = 11 ∨ m = 12 := by omega
  have ha := ahead_val y h
  have hs := ahead_succ0 y h
  obtain ⟨b0, b1, b2, b3, b4, b5, b6, b7, b8, b9, b10, b11, b12⟩ := bef_vals y
  unfold daysV dayNum
  by_cases h2 : m ≤ 2
  · simp only [if_pos h2]
    obtain ⟨E, hE⟩ : ∃ E, E = (y - 1 + 400) / 400 := ⟨_, rfl⟩
    obtain ⟨Y, hY⟩ : ∃ Y, Y = y - 1 + 400 - E * 400 := ⟨_, rfl⟩
    rw [← hE, ← hY]
    have hb : ahead y = 365 * y + (100 * (E - 1) + Y / 4) - (4 * (E - 1) + Y / 100) + (E - 1) + 1 := by
      by_cases e : y = 0
      · subst e
        have : E = 0 := by omega
        subst this
        have : Y = 399 := by omega
        subst this
        decide +kernel
      · have hv := ahead_val (y - 1) (by omega)
        rw [Int.sub_add_cancel] at hv
        have k1 : (y - 1) / 4 = 100 * (E - 1) + Y / 4 := by omega
        have k2 : (y - 1) / 100 = 4 * (E - 1) + Y / 100 := by omega
        have k3 : (y - 1) / 400 = E - 1 := by omega
        rw [k1, k2, k3] at hv
        exact hv
    clear ha hs
    generalize Y / 4 = q4 at hb
    generalize Y / 100 = q1 at hb
    rcases hc with rfl | rfl | rfl | rfl | rfl | rfl | rfl | rfl | rfl | rfl | rfl | rfl
    all_goals first | (exfalso; omega) | skip
    all_goals
      simp only [Int.reduceAdd, Int.reduceSub, Int.reduceMul, Int.reduceToNat, Int.reduceDiv, Int.reduceMod, b0, b1]
      clear b0 b1 b2 b3 b4 b5 b6 b7 b8 b9 b10 b11 b12 hE
      omega
  · simp only [if_neg h2]
    obtain ⟨E, hE⟩ : ∃ E, E = (y + 400) / 400 := ⟨_, rfl⟩
    obtain ⟨Y, hY⟩ : ∃ Y, Y = y + 400 - E * 400 := ⟨_, rfl⟩
    rw [← hE, ← hY]
    have k1 : y / 4 = 100 * (E - 1) + Y / 4 := by omega
    have k2 : y / 100 = 4 * (E - 1) + Y / 100 := by omega
    have k3 : y / 400 = E - 1 := by omega
    rw [k1, k2, k3] at ha
    clear k1 k2 k3
    generalize Y / 4 = q4 at ha
    generalize Y / 100 = q1 at ha
    rcases hc with rfl | rfl | rfl | rfl | rfl | rfl | rfl | rfl | rfl | rfl | rfl | rfl
    all_goals first | (exfalso; omega) | skip
    all_goals
      simp only [Int.reduceAdd, Int.reduceSub, Int.reduceMul, Int.reduceToNat, Int.reduceDiv, Int.reduceMod, b2, b3, b4, b5, b6, b7, b8, b9, b10, b11]
      clear b0 b1 b2 b3 b4 b5 b6 b7 b8 b9 b10 b11 b12 hE
      omega
theorem long_val (y m : Int) (h : 0 ≤ y) (m0 : 1 ≤ m) (m1 : m ≤ 11) : daysV y (m + 1) 1 - daysV y m 1 = mdays y m := by
  rw [daysV_eq y (m + 1) 1 h (by omega) (by omega), daysV_eq y m 1 h (by omega) (by omega)]
  obtain ⟨k, rfl⟩ := Int.eq_ofNat_of_zero_le (show 0 ≤ m by omega)
  cases k with
  | zero => omega
  | succ k =>
    unfold dayNum
    have e1 : (((k + 1 : Nat) : Int) + 1 - 1).toNat = k + 1 := by omega
    have e2 : (((k + 1 : Nat) : Int) - 1).toNat = k := by omega
    rw [e1, e2]
    show _ - _ + (bef y k + mdays y ((k : Int) + 1)) + _ - _ - _ = _
    have e3 : (((k + 1 : Nat) : Int)) = (k : Int) + 1 := by omega
    rw [e3]
    omega
theorem mdays_le (y m : Int) : 28 ≤ mdays y m ∧ mdays y m ≤ 31 := by
  unfold mdays
  repeat' split
  all_goals omega
theorem long_any (y m : Int) (w : World) (h0 : 0 ≤ y) (h1 : y ≤ 100000) (m0 : 1 ≤ m) (m1 : m ≤ 12) : Calls Tryd.prog 42 #[.int .i64 y, .int .i64 m] w fun e w' => e = .returned (.int .i64 (mdays y m)) ∧ w = w' := by
  by_cases h12 : m = 12
  · subst h12
    have hv : mdays y 12 = 31 := rfl
    rw [hv]
    go_enter Tryd.func42, Tryd.ntmps42
    go_wp2
    go_ret
    exact ⟨rfl, rfl⟩
  · have hv := long_val y m h0 m0 (by omega)
    rw [← hv]
    have hb := mdays_le y m
    obtain ⟨a, ha⟩ : ∃ a, a = daysV y (m + 1) 1 := ⟨_, rfl⟩
    obtain ⟨b, hb2⟩ : ∃ b, b = daysV y m 1 := ⟨_, rfl⟩
    have ba : 0 ≤ a + 719600 ∧ a ≤ 100000000 := by
      rw [ha]; unfold daysV; simp only []
      split <;> omega
    rw [← hv, ← ha, ← hb2] at hb
    have H1 : Hid (∀ w, Calls Tryd.prog 43 #[.int .i64 y, .int .i64 (m + 1), .int .i64 1] w fun e w' => e = .returned (.int .i64 a) ∧ w = w') := fun w => by rw [ha]; exact days_any y (m + 1) 1 w h0 h1 (by omega) (by omega) (by omega) (by omega)
    have H2 : Hid (∀ w, Calls Tryd.prog 43 #[.int .i64 y, .int .i64 m, .int .i64 1] w fun e w' => e = .returned (.int .i64 b) ∧ w = w') := fun w => by rw [hb2]; exact days_any y m 1 w h0 h1 (by omega) (by omega) (by omega) (by omega)
    rw [← ha, ← hb2]
    clear hv ha hb2
    go_enter Tryd.func42, Tryd.ntmps42
    go_wp2_with fail
    refine (H1.out _).mono ?_; rintro e w1 ⟨rfl, hw⟩; obtain rfl : _ = w1 := hw
    go_wp2_with fail
    refine (H2.out _).mono ?_; rintro e w1 ⟨rfl, hw⟩; obtain rfl : _ = w1 := hw
    go_wp2
    go_ret
    exact ⟨rfl, rfl⟩
end Go.Proofs.YtfhdnppcookcoaaDoor
