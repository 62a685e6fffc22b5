/- The walks of clock, zone, date. -/
import Derived.Test.YtfhdnppcookcoaaDoorDate2
import Derived.Test.YtfhdnppcookcoaaDoorDate3
namespace Go.Proofs.YtfhdnppcookcoaaDoor
open Go.RowKit Go.PlainAid
set_option linter.unusedVariables false
set_option linter.unusedSimpArgs false
theorem dnum_small (s : ByteArray) (h : s.size ≤ 10) : 0 ≤ (dnumV s).1 ∧ (dnumV s).1 < 10000000000 := by
  unfold dnumV
  by_cases hd : digitsB s s.size = true
  · rw [if_pos hd]; exact numZ_small s s.size h hd
  · rw [if_neg hd]; simp
def NumIs (s : ByteArray) (v : Int) (b : Bool) : Prop := ∀ w, Calls Tryd.prog 41 #[.string s] w fun e w' => e = .returned (.tuple #[.int .i64 v, .bool b]) ∧ w = w'
theorem num_is (s : ByteArray) (hs : s.size ≤ 10) : NumIs s (dnumV s).1 (dnumV s).2 := fun w => number_any2 s w hs
theorem clock_cases (a b d : Bool) (h m c : Int) (v : Bool) (hv : v = (a && b && d && decide (h < 24) && decide (m < 60) && decide (c < 60))) :
    (a = false ∧ v = false) ∨ (a = true ∧ b = false ∧ v = false) ∨ (a = true ∧ b = true ∧ d = false ∧ v = false) ∨ (a = true ∧ b = true ∧ d = true ∧ 24 ≤ h ∧ v = false) ∨
    (a = true ∧ b = true ∧ d = true ∧ h < 24 ∧ 60 ≤ m ∧ v = false) ∨ (a = true ∧ b = true ∧ d = true ∧ h < 24 ∧ m < 60 ∧ v = decide (c < 60)) := by
  subst hv
  cases a <;> cases b <;> cases d <;> simp
  omega
def clockV (s : ByteArray) : Int × Bool :=
  if s.size = 8 ∧ bt s 2 = 58 ∧ bt s 5 = 58 then
    ((dnumV (s.extract 0 2)).1 * 3600 + (dnumV (s.extract 3 5)).1 * 60 + (dnumV (s.extract 6 8)).1,
      (dnumV (s.extract 0 2)).2 && (dnumV (s.extract 3 5)).2 && (dnumV (s.extract 6 8)).2 && decide ((dnumV (s.extract 0 2)).1 < 24) && decide ((dnumV (s.extract 3 5)).1 < 60) && decide ((dnumV (s.extract 6 8)).1 < 60))
  else (0, false)
theorem ext_le (s : ByteArray) (i j : Nat) (h : i ≤ j) : (s.extract i j).size ≤ j - i := by rw [ByteArray.size_extract]; omega
set_option maxHeartbeats 2000000 in
theorem clock_any (s : ByteArray) (w : World) (hs : s.size ≤ 1000) : Calls Tryd.prog 32 #[.string s] w (Num2End (clockV s) w) := by
  have hb := get_bt s
  by_cases hc : s.size = 8 ∧ bt s 2 = 58 ∧ bt s 5 = 58
  · obtain ⟨h8, h2, h5⟩ := hc
    have N1 : Hid (NumIs (s.extract 0 2) (dnumV (s.extract 0 2)).1 (dnumV (s.extract 0 2)).2) := num_is _ (by have := ext_le s 0 2; omega)
    have N2 : Hid (NumIs (s.extract 3 5) (dnumV (s.extract 3 5)).1 (dnumV (s.extract 3 5)).2) := num_is _ (by have := ext_le s 3 5; omega)
    have N3 : Hid (NumIs (s.extract 6 8) (dnumV (s.extract 6 8)).1 (dnumV (s.extract 6 8)).2) := num_is _ (by have := ext_le s 6 8; omega)
    have z1 := dnum_small (s.extract 0 2) (by have := ext_le s 0 2; omega)
    have z2 := dnum_small (s.extract 3 5) (by have := ext_le s 3 5; omega)
    have z3 := dnum_small (s.extract 6 8) (by have := ext_le s 6 8; omega)
    have hv : clockV s = _ := if_pos ⟨h8, h2, h5⟩
    rw [hv]
    clear hv
    generalize dnumV (s.extract 0 2) = q1 at N1 z1 ⊢
    generalize dnumV (s.extract 3 5) = q2 at N2 z2 ⊢
    generalize dnumV (s.extract 6 8) = q3 at N3 z3 ⊢
    obtain ⟨h, a⟩ := q1
    obtain ⟨m, b⟩ := q2
    obtain ⟨c, d⟩ := q3
    dsimp only at N1 N2 N3 z1 z2 z3 ⊢
    obtain ⟨z1, z1'⟩ := z1
    obtain ⟨z2, z2'⟩ := z2
    obtain ⟨z3, z3'⟩ := z3
    obtain ⟨V, hV⟩ : ∃ V, V = (a && b && d && decide (h < 24) && decide (m < 60) && decide (c < 60)) := ⟨_, rfl⟩
    rw [← hV]
    have hcs := clock_cases a b d h m c V hV
    clear hV
    rcases hcs with ⟨rfl, rfl⟩ | ⟨rfl, rfl, rfl⟩ | ⟨rfl, rfl, rfl, rfl⟩ | ⟨rfl, rfl, rfl, q1, rfl⟩ | ⟨rfl, rfl, rfl, q1, q2, rfl⟩ | ⟨rfl, rfl, rfl, q1, q2, rfl⟩
    all_goals
      go_enter Tryd.func32, Tryd.ntmps32
      go_wp2_with fail
      refine (N1.out _).mono ?_; rintro e w1 ⟨rfl, hw⟩; obtain rfl : _ = w1 := hw
      go_wp2_with fail
      refine (N2.out _).mono ?_; rintro e w1 ⟨rfl, hw⟩; obtain rfl : _ = w1 := hw
      go_wp2_with fail
      refine (N3.out _).mono ?_; rintro e w1 ⟨rfl, hw⟩; obtain rfl : _ = w1 := hw
      go_wp2
      go_ret2
      exact ⟨rfl, rfl⟩
  · have hv : clockV s = (0, false) := if_neg hc
    rw [hv]
    by_cases h8 : s.size = 8
    · by_cases h2 : bt s 2 = 58
      · have h5 : ¬ bt s 5 = 58 := fun h => hc ⟨h8, h2, h⟩
        clear hc hv
        go_enter Tryd.func32, Tryd.ntmps32
        go_wp2
        go_ret2
        exact ⟨rfl, rfl⟩
      · clear hc hv
        go_enter Tryd.func32, Tryd.ntmps32
        go_wp2
        go_ret2
        exact ⟨rfl, rfl⟩
    · clear hc hv
      go_enter Tryd.func32, Tryd.ntmps32
      go_wp2
      go_ret2
      exact ⟨rfl, rfl⟩
end Go.Proofs.YtfhdnppcookcoaaDoor
