/- The walks of the reference's calendar. -/
import Derived.Test.YtfhdnppcookcoaaDoorDate12
namespace Go.Proofs.YtfhdnppcookcoaaDoor
open Go.RowKit Go.PlainAid
set_option linter.unusedVariables false
set_option linter.unusedSimpArgs false
theorem rleap_any (y : Int) (w : World) (h0 : 0 ≤ y) (h1 : y ≤ 100000) : Calls Tryd.prog 48 #[.int .i64 y] w fun e w' => e = .returned (.bool (leapB y)) ∧ w = w' := by
  obtain ⟨v, hv⟩ : ∃ v, v = leapB y := ⟨_, rfl⟩
  rw [← hv]
  unfold leapB at hv
  have n2 : (y % 100 != 0) = !(y % 100 == 0) := rfl
  cases b1 : (y % 4 == 0) <;> cases b2 : (y % 100 == 0) <;> cases b3 : (y % 400 == 0) <;> rw [b2] at n2 <;> rw [b1, b2, b3] at hv <;> simp only [Bool.and_true, Bool.and_false, Bool.true_and, Bool.false_and, Bool.not_true, Bool.not_false, Bool.or_true, Bool.or_false, Bool.true_or, Bool.false_or] at hv n2 <;> subst hv
  all_goals
    go_enter Tryd.func48, Tryd.ntmps48
    go_wp2
    go_ret
    exact ⟨rfl, rfl⟩
theorem rdays_any (y m : Int) (w : World) (h0 : 0 ≤ y) (h1 : y ≤ 100000) (m0 : 0 ≤ m) (m1 : m ≤ 100000) : Calls Tryd.prog 35 #[.int .i64 y, .int .i64 m] w fun e w' => e = .returned (.int .i64 (mdays y m)) ∧ w = w' := by
  have H : Hid (∀ w, Calls Tryd.prog 48 #[.int .i64 y] w fun e w' => e = .returned (.bool (leapB y)) ∧ w = w') := fun w => rleap_any y w h0 h1
  obtain ⟨v, hv⟩ : ∃ v, v = mdays y m := ⟨_, rfl⟩
  rw [← hv]
  unfold mdays at hv
  by_cases e2 : m = 2
  · rw [if_pos e2] at hv
    subst e2
    cases hl : leapB y with
    | true =>
      rw [hl] at hv H
      rw [if_pos rfl] at hv
      subst hv
      clear hl
      go_enter Tryd.func35, Tryd.ntmps35
      go_wp2_with fail
      refine (H.out _).mono ?_; rintro e w1 ⟨rfl, hw⟩; obtain rfl : _ = w1 := hw
      go_wp2_with fail
      go_ret
      exact ⟨rfl, rfl⟩
    | false =>
      rw [hl] at hv H
      rw [if_neg (by simp)] at hv
      subst hv
      clear hl
      go_enter Tryd.func35, Tryd.ntmps35
      go_wp2_with fail
      refine (H.out _).mono ?_; rintro e w1 ⟨rfl, hw⟩; obtain rfl : _ = w1 := hw
      go_wp2_with fail
      go_ret
      exact ⟨rfl, rfl⟩
  · rw [if_neg e2] at hv
    have f2 : (m == 2) = false := by rw [beq_eq_false_iff_ne]; exact e2
    by_cases e4 : m = 4 ∨ m = 6 ∨ m = 9 ∨ m = 11
    · rw [if_pos e4] at hv
      subst hv
      rcases e4 with rfl | rfl | rfl | rfl
      all_goals
        go_enter Tryd.func35, Tryd.ntmps35
        go_wp2_with fail
        go_ret
        exact ⟨rfl, rfl⟩
    · rw [if_neg e4] at hv
      subst hv
      have f4 : (m == 4) = false := by rw [beq_eq_false_iff_ne]; omega
      have f6 : (m == 6) = false := by rw [beq_eq_false_iff_ne]; omega
      have f9 : (m == 9) = false := by rw [beq_eq_false_iff_ne]; omega
      have f11 : (m == 11) = false := by rw [beq_eq_false_iff_ne]; omega
      clear e2 e4
      go_enter Tryd.func35, Tryd.ntmps35
      go_wp2_with fail
      go_ret
      exact ⟨rfl, rfl⟩
theorem rahead_any (y : Int) (w : World) (h0 : 0 ≤ y) (h1 : y ≤ 100000) : Calls Tryd.prog 34 #[.int .i64 y] w fun e w' => e = .returned (.int .i64 (ahead y)) ∧ w = w' := by
  obtain ⟨v, hv⟩ : ∃ v, v = ahead y := ⟨_, rfl⟩
  rw [← hv]
  unfold ahead at hv
  by_cases h : y ≤ 0
  · rw [if_pos h] at hv
    subst hv
    go_enter Tryd.func34, Tryd.ntmps34
    go_wp2_with fail
    go_ret
    exact ⟨rfl, rfl⟩
  · rw [if_neg h] at hv
    have HV := Lib.hid hv
    clear hv
    have h2 : 0 ≤ y - 1 := by omega
    go_enter Tryd.func34, Tryd.ntmps34
    go_wp2_with fail
    go_ret
    exact ⟨by rw [HV.out]; rfl, rfl⟩
def AhIs (y A : Int) : Prop := ∀ w, Calls Tryd.prog 34 #[.int .i64 y] w fun e w' => e = .returned (.int .i64 A) ∧ w = w'
theorem AhIs.at_ {y A : Int} (h : AhIs y A) (w : World) : Calls Tryd.prog 34 #[.int .i64 y] w fun e w' => e = .returned (.int .i64 A) ∧ w = w' := h w
def MdIs (y m A : Int) : Prop := ∀ w, Calls Tryd.prog 35 #[.int .i64 y, .int .i64 m] w fun e w' => e = .returned (.int .i64 A) ∧ w = w'
theorem MdIs.at_ {y m A : Int} (h : MdIs y m A) (w : World) : Calls Tryd.prog 35 #[.int .i64 y, .int .i64 m] w fun e w' => e = .returned (.int .i64 A) ∧ w = w' := h w
theorem ahead_1970 : ahead 1970 = 719528 := by decide +kernel
theorem ahead_10000 : ahead 10000 = 3652425 := by decide +kernel
theorem guess_ok (D : Int) (h0 : 0 ≤ D) (h1 : D ≤ 2932896) : 1970 ≤ 1970 + D / 366 ∧ 1970 + D / 366 ≤ 9999 ∧ ahead (1970 + D / 366) - 719528 ≤ D := by
  have hv := ahead_val (1970 + D / 366 - 1) (by omega)
  rw [Int.sub_add_cancel] at hv
  omega
end Go.Proofs.YtfhdnppcookcoaaDoor
