/- The walk of date. -/
import Derived.Test.YtfhdnppcookcoaaDoorDate5
namespace Go.Proofs.YtfhdnppcookcoaaDoor
open Go.RowKit Go.PlainAid
set_option linter.unusedVariables false
set_option linter.unusedSimpArgs false
def Num2Below (v : Int × Bool) (w : World) (e : Ending) (w' : World) : Prop := e = .returned (.tuple #[.int .i64 v.1, .bool v.2]) ∧ Below w.heap.size w w'
theorem date_cases (a b : Bool) (n : Nat) (m d L N : Int) (v : Int × Bool) (hv : v = if a = true ∧ b = true ∧ n = 4 ∧ ¬ m = 0 ∧ 1 ≤ d ∧ d ≤ L then (N, true) else (0, false)) :
    (a = false ∧ v = (0, false)) ∨ (a = true ∧ b = false ∧ v = (0, false)) ∨ (a = true ∧ b = true ∧ ¬ n = 4 ∧ v = (0, false)) ∨ (a = true ∧ b = true ∧ n = 4 ∧ m = 0 ∧ v = (0, false)) ∨
    (a = true ∧ b = true ∧ n = 4 ∧ ¬ m = 0 ∧ d < 1 ∧ v = (0, false)) ∨ (a = true ∧ b = true ∧ n = 4 ∧ ¬ m = 0 ∧ 1 ≤ d ∧ L < d ∧ v = (0, false)) ∨ (a = true ∧ b = true ∧ n = 4 ∧ ¬ m = 0 ∧ 1 ≤ d ∧ d ≤ L ∧ v = (N, true)) := by
  subst hv
  cases a with
  | false => exact .inl ⟨rfl, if_neg (by simp)⟩
  | true =>
    cases b with
    | false => exact .inr (.inl ⟨rfl, rfl, if_neg (by simp)⟩)
    | true =>
      by_cases hn : n = 4
      · by_cases hm : m = 0
        · exact .inr (.inr (.inr (.inl ⟨rfl, rfl, hn, hm, if_neg (by omega)⟩)))
        · by_cases h1 : 1 ≤ d
          · by_cases h2 : d ≤ L
            · exact .inr (.inr (.inr (.inr (.inr (.inr ⟨rfl, rfl, hn, hm, h1, h2, if_pos ⟨rfl, rfl, hn, hm, h1, h2⟩⟩)))))
            · exact .inr (.inr (.inr (.inr (.inr (.inl ⟨rfl, rfl, hn, hm, h1, by omega, if_neg (by omega)⟩)))))
          · exact .inr (.inr (.inr (.inr (.inl ⟨rfl, rfl, hn, hm, by omega, if_neg (by omega)⟩))))
      · exact .inr (.inr (.inl ⟨rfl, rfl, hn, if_neg (by omega)⟩))
set_option maxHeartbeats 2000000 in
set_option maxRecDepth 100000 in
theorem date_any (day mon year : ByteArray) (w : World) (h1 : day.size ≤ 10) (h2 : mon.size ≤ 1000) (h3 : year.size ≤ 4) : Calls Tryd.prog 31 #[.string day, .string mon, .string year] w (Num2Below (dateV day mon year) w) := by
  have hW := Below.refl w.heap.size w
  have N1 : Hid (NumIs day (dnumV day).1 (dnumV day).2) := num_is _ h1
  have N2 : Hid (NumIs year (dnumV year).1 (dnumV year).2) := num_is _ (by omega)
  have N3 : Hid (∀ w, Calls Tryd.prog 47 #[.string mon] w fun e w' => e = .returned (.int .i64 (monV mon)) ∧ Below w.heap.size w w') := fun w => month_any mon w h2
  have z1 := dnum_small day h1
  have z2 := dnum_small year (by omega)
  have z3 := dnum_four year h3
  have z4 := monV_le mon
  obtain ⟨v, hv⟩ : ∃ v, v = dateV day mon year := ⟨_, rfl⟩
  rw [← hv]
  unfold dateV at hv
  generalize dnumV day = q1 at N1 z1 hv
  generalize dnumV year = q2 at N2 z2 z3 hv
  generalize monV mon = m at N3 z4 hv
  obtain ⟨d, a⟩ := q1
  obtain ⟨y, b⟩ := q2
  dsimp only at N1 N2 z1 z2 z3 hv
  obtain ⟨z1, z1'⟩ := z1
  obtain ⟨z2, z2'⟩ := z2
  obtain ⟨z4, z4'⟩ := z4
  have hcs := date_cases a b year.size m d (mdays y m) (dayNum y m d) v hv
  have hml := mdays_le y m
  obtain ⟨L, hL⟩ : ∃ L, L = mdays y m := ⟨_, rfl⟩
  have N4 : Hid (1 ≤ m → ∀ w, Calls Tryd.prog 42 #[.int .i64 y, .int .i64 m] w fun e w' => e = .returned (.int .i64 L) ∧ w = w') := fun hm w => by rw [hL]; exact long_any y m w z2 (by omega) hm z4'
  have N5 : Hid (1 ≤ m → ∀ w, Calls Tryd.prog 43 #[.int .i64 y, .int .i64 m, .int .i64 d] w fun e w' => e = .returned (.int .i64 (dayNum y m d)) ∧ w = w') := fun hm w => by
    rw [← daysV_eq y m d z2 hm z4']
    exact days_any y m d w z2 (by omega) hm z4' (by omega) (by omega)
  rw [← hL] at hcs hml
  generalize dayNum y m d = N at N5 hcs
  clear hv hL
  rcases hcs with ⟨rfl, rfl⟩ | ⟨rfl, rfl, rfl⟩ | ⟨rfl, rfl, c1, rfl⟩ | ⟨rfl, rfl, c1, c2, rfl⟩ | ⟨rfl, rfl, c1, c2, c3, rfl⟩ | ⟨rfl, rfl, c1, c2, c3, c4, rfl⟩ | ⟨rfl, rfl, c1, c2, c3, c4, rfl⟩
  all_goals
    try (have c9 : (m == 0) = false := by rw [beq_eq_false_iff_ne]; exact c2)
    go_enter Tryd.func31, Tryd.ntmps31
    go_wp2_with fail
    refine (N1.out _).mono ?_; rintro e w1 ⟨rfl, hw⟩; obtain rfl : _ = w1 := hw
    go_wp2_with fail
    refine (N2.out _).mono ?_; rintro e w1 ⟨rfl, hw⟩; obtain rfl : _ = w1 := hw
    go_wp2_with fail
    refine (N3.out _).mono ?_; rintro e w1 ⟨rfl, hw1⟩; (first | replace hW := nextB hW hw1 | replace hW := nextA hW hw1 | replace hW := nextB hW.drew hw1 | replace hW := nextAA hW hw1 | replace hW := nextAD hW hw1); clear hw1
    go_wp2_with (first | (go_at_call 42; refine (N4.out (by omega) _).mono ?_; rintro e w1 ⟨rfl, hw⟩; obtain rfl : _ = w1 := hw) | (go_at_call 43; refine (N5.out (by omega) _).mono ?_; rintro e w1 ⟨rfl, hw⟩; obtain rfl : _ = w1 := hw))
    go_ret2
    exact ⟨rfl, hW⟩
end Go.Proofs.YtfhdnppcookcoaaDoor
