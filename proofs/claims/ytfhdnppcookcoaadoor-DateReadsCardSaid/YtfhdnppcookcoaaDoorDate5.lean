/- The walks of zone and date. -/
import Derived.Test.YtfhdnppcookcoaaDoorDate4
namespace Go.Proofs.YtfhdnppcookcoaaDoor
open Go.RowKit Go.PlainAid
set_option linter.unusedVariables false
set_option linter.unusedSimpArgs false
theorem zone_cases (a b : Bool) (h m : Int) (v : Bool) (hv : v = (a && b && decide (h < 24) && decide (m < 60))) :
    (a = false ∧ v = false) ∨ (a = true ∧ b = false ∧ v = false) ∨ (a = true ∧ b = true ∧ 24 ≤ h ∧ v = false) ∨ (a = true ∧ b = true ∧ h < 24 ∧ v = decide (m < 60)) := by
  subst hv
  cases a <;> cases b <;> simp
  omega
def zoneV (s : ByteArray) : Int × Bool :=
  if s.size = 5 ∧ (bt s 0 = 43 ∨ bt s 0 = 45) then
    (if bt s 0 = 45 then -((dnumV (s.extract 1 3)).1 * 3600 + (dnumV (s.extract 3 5)).1 * 60) else (dnumV (s.extract 1 3)).1 * 3600 + (dnumV (s.extract 3 5)).1 * 60,
      (dnumV (s.extract 1 3)).2 && (dnumV (s.extract 3 5)).2 && decide ((dnumV (s.extract 1 3)).1 < 24) && decide ((dnumV (s.extract 3 5)).1 < 60))
  else (0, false)
set_option maxHeartbeats 1000000 in
theorem zone_any (s : ByteArray) (w : World) (hs : s.size ≤ 1000) : Calls Tryd.prog 33 #[.string s] w (Num2End (zoneV s) w) := by
  have hb := get_bt s
  by_cases hc : s.size = 5 ∧ (bt s 0 = 43 ∨ bt s 0 = 45)
  · obtain ⟨h8, h2⟩ := hc
    have N1 : Hid (NumIs (s.extract 1 3) (dnumV (s.extract 1 3)).1 (dnumV (s.extract 1 3)).2) := num_is _ (by have := ext_le s 1 3; omega)
    have N2 : Hid (NumIs (s.extract 3 5) (dnumV (s.extract 3 5)).1 (dnumV (s.extract 3 5)).2) := num_is _ (by have := ext_le s 3 5; omega)
    have z1 := dnum_small (s.extract 1 3) (by have := ext_le s 1 3; omega)
    have z2 := dnum_small (s.extract 3 5) (by have := ext_le s 3 5; omega)
    have hv : zoneV s = _ := if_pos ⟨h8, h2⟩
    rw [hv]
    clear hv
    generalize dnumV (s.extract 1 3) = q1 at N1 z1 ⊢
    generalize dnumV (s.extract 3 5) = q2 at N2 z2 ⊢
    obtain ⟨h, a⟩ := q1
    obtain ⟨m, b⟩ := q2
    dsimp only at N1 N2 z1 z2 ⊢
    obtain ⟨z1, z1'⟩ := z1
    obtain ⟨z2, z2'⟩ := z2
    obtain ⟨V, hV⟩ : ∃ V, V = (a && b && decide (h < 24) && decide (m < 60)) := ⟨_, rfl⟩
    rw [← hV]
    have hcs := zone_cases a b h m V hV
    clear hV
    rcases h2 with h2 | h2
    · rw [if_neg (by omega)]
      rcases hcs with ⟨rfl, rfl⟩ | ⟨rfl, rfl, rfl⟩ | ⟨rfl, rfl, q1, rfl⟩ | ⟨rfl, rfl, q1, rfl⟩
      all_goals
        go_enter Tryd.func33, Tryd.ntmps33
        go_wp2_with fail
        refine (N1.out _).mono ?_; rintro e w1 ⟨rfl, hw⟩; obtain rfl : _ = w1 := hw
        go_wp2_with fail
        refine (N2.out _).mono ?_; rintro e w1 ⟨rfl, hw⟩; obtain rfl : _ = w1 := hw
        go_wp2
        go_ret2
        exact ⟨rfl, rfl⟩
    · rw [if_pos h2]
      rcases hcs with ⟨rfl, rfl⟩ | ⟨rfl, rfl, rfl⟩ | ⟨rfl, rfl, q1, rfl⟩ | ⟨rfl, rfl, q1, rfl⟩
      all_goals
        go_enter Tryd.func33, Tryd.ntmps33
        go_wp2_with fail
        refine (N1.out _).mono ?_; rintro e w1 ⟨rfl, hw⟩; obtain rfl : _ = w1 := hw
        go_wp2_with fail
        refine (N2.out _).mono ?_; rintro e w1 ⟨rfl, hw⟩; obtain rfl : _ = w1 := hw
        go_wp2
        go_ret2
        exact ⟨rfl, rfl⟩
  · have hv : zoneV s = (0, false) := if_neg hc
    rw [hv]
    by_cases h8 : s.size = 5
    · have h2 : ¬ bt s 0 = 43 := fun h => hc ⟨h8, .inl h⟩
      have h3 : ¬ bt s 0 = 45 := fun h => hc ⟨h8, .inr h⟩
      have h4 : (bt s 0 != 43) = true := by simpa using h2
      have h5 : (bt s 0 != 45) = true := by simpa using h3
      clear hc hv
      go_enter Tryd.func33, Tryd.ntmps33
      go_wp2
      go_ret2
      exact ⟨rfl, rfl⟩
    · clear hc hv
      go_enter Tryd.func33, Tryd.ntmps33
      go_wp2
      go_ret2
      exact ⟨rfl, rfl⟩
/-- the day that three words tell -/
def dateV (day mon year : ByteArray) : Int × Bool :=
  if (dnumV day).2 = true ∧ (dnumV year).2 = true ∧ year.size = 4 ∧ ¬ monV mon = 0 ∧ 1 ≤ (dnumV day).1 ∧ (dnumV day).1 ≤ mdays (dnumV year).1 (monV mon) then (dayNum (dnumV year).1 (monV mon) (dnumV day).1, true)
  else (0, false)
theorem monFrom_le (t : List UInt8) : ∀ f k, 0 ≤ monFrom t f k ∧ monFrom t f k ≤ k + f
  | 0, k => by simp [monFrom]
  | f + 1, k => by
    simp only [monFrom]
    split
    · omega
    · have := monFrom_le t f (k + 1); omega
theorem monV_le (s : ByteArray) : 0 ≤ monV s ∧ monV s ≤ 12 := by
  have h : ∀ t f (k : Nat), monFrom t f k ≤ k + f - 1 ∨ monFrom t f k = 0 := by
    intro t f
    induction f with
    | zero => intro k; exact .inr rfl
    | succ f ih =>
      intro k
      simp only [monFrom]
      split
      · left; omega
      · rcases ih (k + 1) with h | h
        · left; omega
        · right; exact h
  have h1 := monFrom_le (foldS s).toList 12 1
  have h2 := h (foldS s).toList 12 1
  unfold monV
  omega
theorem dnum_four (s : ByteArray) (h : s.size ≤ 4) : (dnumV s).1 < 10000 := by
  unfold dnumV
  by_cases hd : digitsB s s.size = true
  · rw [if_pos hd]
    have h1 := (numZ_bound s s.size (by omega) hd).2
    have h2 : (10 : Int) ^ s.size ≤ 10 ^ 4 := by exact_mod_cast Nat.pow_le_pow_right (n := 10) (by omega) h
    show numZ s s.size < 10000
    omega
  · rw [if_neg hd]; simp
end Go.Proofs.YtfhdnppcookcoaaDoor
