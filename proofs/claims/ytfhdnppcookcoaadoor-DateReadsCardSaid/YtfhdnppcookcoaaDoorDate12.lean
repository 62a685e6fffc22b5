/- The day behind a day. -/
import Derived.Test.YtfhdnppcookcoaaDoorDate9
namespace Go.Proofs.YtfhdnppcookcoaaDoor
set_option linter.unusedVariables false
set_option linter.unusedSimpArgs false
theorem ahead_mono (a b : Int) (h0 : 0 ≤ a) (h : a ≤ b) : ahead a ≤ ahead b := by
  by_cases ha : a = 0
  · subst ha
    by_cases hb : b = 0
    · subst hb; exact Int.le_refl _
    · have h1 := ahead_val (b - 1) (by omega)
      rw [Int.sub_add_cancel] at h1
      have h2 : ahead 0 = 0 := rfl
      omega
  · have h1 := ahead_val (a - 1) (by omega)
    have h2 := ahead_val (b - 1) (by omega)
    rw [Int.sub_add_cancel] at h1 h2
    omega
theorem bef_mono (y : Int) (a b : Nat) (h : a ≤ b) : bef y a ≤ bef y b := by
  induction b with
  | zero => obtain rfl : a = 0 := by omega
            exact Int.le_refl _
  | succ b ih =>
    by_cases e : a = b + 1
    · subst e; exact Int.le_refl _
    · have := ih (by omega)
      have := mdays_le y (b + 1)
      simp only [bef]; omega
theorem bef_step (y m : Int) (h : 1 ≤ m) : bef y (m + 1 - 1).toNat = bef y (m - 1).toNat + mdays y m := by
  obtain ⟨k, rfl⟩ := Int.eq_ofNat_of_zero_le (show 0 ≤ m by omega)
  cases k with
  | zero => omega
  | succ k =>
    have e1 : (((k + 1 : Nat) : Int) + 1 - 1).toNat = k + 1 := by omega
    have e2 : (((k + 1 : Nat) : Int) - 1).toNat = k := by omega
    rw [e1, e2]
    show bef y k + mdays y ((k : Int) + 1) = _
    have e3 : (((k + 1 : Nat) : Int)) = (k : Int) + 1 := by omega
    rw [e3]
theorem dayNum_inj (y m d y' m' d' : Int) (h0 : 0 ≤ y) (h0' : 0 ≤ y') (v : Valid y m d) (v' : Valid y' m' d') (h : dayNum y m d = dayNum y' m' d') : y = y' ∧ m = m' ∧ d = d' := by
  obtain ⟨m0, m1, d0, d1⟩ := v
  obtain ⟨m0', m1', d0', d1'⟩ := v'
  have b := bef_bound y m m0 m1
  have b' := bef_bound y' m' m0' m1'
  have s := ahead_succ0 y h0
  have s' := ahead_succ0 y' h0'
  unfold dayNum at h
  have hy : y = y' := by
    rcases Int.lt_trichotomy y y' with q | q | q
    · have := ahead_mono (y + 1) y' (by omega) (by omega); omega
    · exact q
    · have := ahead_mono (y' + 1) y (by omega) (by omega); omega
  subst hy
  have hm : m = m' := by
    rcases Int.lt_trichotomy m m' with q | q | q
    · have h1 := bef_mono y (m + 1 - 1).toNat (m' - 1).toNat (by omega)
      rw [bef_step y m m0] at h1; omega
    · exact q
    · have h1 := bef_mono y (m' + 1 - 1).toNat (m - 1).toNat (by omega)
      rw [bef_step y m' m0'] at h1; omega
  subst hm
  exact ⟨rfl, rfl, by omega⟩
theorem civ_is (n y m d : Int) (h : 0 ≤ n) (h1 : n ≤ 2932896) (h0 : 0 ≤ y) (v : Valid y m d) (hd : dayNum y m d = n) : civ n = (y, m, d) := by
  obtain ⟨v', e⟩ := civ_valid n h
  obtain ⟨q0, q1⟩ := civ_year n h h1
  obtain ⟨a, b, c⟩ := dayNum_inj _ _ _ y m d (by omega) h0 v' v (e.trans hd.symm)
  rw [← a, ← b, ← c]
theorem civ_next (n y m d : Int) (h : 0 ≤ n) (h1 : n < 2932896) (hc : civ n = (y, m, d)) :
    (civ (n + 1) = (y, m, d + 1)) ∨ (28 ≤ d ∧ civ (n + 1) = (y, m + 1, 1)) ∨ (m = 12 ∧ d = 31 ∧ civ (n + 1) = (y + 1, 1, 1)) := by
  obtain ⟨v, e⟩ := civ_valid n h
  obtain ⟨q0, q1⟩ := civ_year n h (by omega)
  rw [hc] at v e q0 q1
  dsimp only at v e q0 q1
  obtain ⟨m0, m1, d0, d1⟩ := v
  have hl := mdays_le y m
  by_cases hd : d < mdays y m
  · exact .inl (civ_is (n + 1) y m (d + 1) (by omega) (by omega) (by omega) ⟨m0, m1, by omega, by omega⟩ (by unfold dayNum at e ⊢; omega))
  · by_cases hm : m < 12
    · refine .inr (.inl ⟨by omega, civ_is (n + 1) y (m + 1) 1 (by omega) (by omega) (by omega) ⟨by omega, by omega, by omega, by have := mdays_le y (m + 1); omega⟩ ?_⟩)
      have := bef_step y m m0
      unfold dayNum at e ⊢
      omega
    · obtain rfl : m = 12 := by omega
      have e31 : mdays y 12 = 31 := rfl
      obtain rfl : d = 31 := by omega
      refine .inr (.inr ⟨rfl, rfl, civ_is (n + 1) (y + 1) 1 1 (by omega) (by omega) (by omega) ⟨by omega, by omega, by omega, by have := mdays_le (y + 1) 1; omega⟩ ?_⟩)
      have s := ahead_succ0 y (by omega)
      obtain ⟨b0, b1, b2, b3, b4, b5, b6, b7, b8, b9, b10, b11, b12⟩ := bef_vals y
      unfold dayNum at e ⊢
      have z : bef (y + 1) ((1 : Int) - 1).toNat = 0 := rfl
      have z2 : bef y ((12 : Int) - 1).toNat = bef y 11 := rfl
      rw [z]; rw [z2] at e
      omega
end Go.Proofs.YtfhdnppcookcoaaDoor
