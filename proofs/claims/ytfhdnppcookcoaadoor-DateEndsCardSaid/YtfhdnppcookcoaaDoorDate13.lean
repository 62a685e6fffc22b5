/- The laws DateNext and DateEnds. -/
import Derived.Test.YtfhdnppcookcoaaDoorDate11
import Derived.Test.YtfhdnppcookcoaaDoorDate12
namespace Go.Proofs.YtfhdnppcookcoaaDoor
open Go.RowKit Go.PlainAid
set_option linter.unusedVariables false
set_option linter.unusedSimpArgs false
def CivO (k y m d h mi se : Int) : Prop := ∀ w, Calls Tryd.prog 11 #[.int .i64 k] w fun e w' => e = .returned (.tuple #[.int .i64 y, .int .i64 m, .int .i64 d, .int .i64 h, .int .i64 mi, .int .i64 se]) ∧ w = w'
theorem CivO.at_ {k y m d h mi se : Int} (c : CivO k y m d h mi se) (w : World) : Calls Tryd.prog 11 #[.int .i64 k] w fun e w' => e = .returned (.tuple #[.int .i64 y, .int .i64 m, .int .i64 d, .int .i64 h, .int .i64 mi, .int .i64 se]) ∧ w = w' := c w
theorem civO_is (k y m d : Int) (h0 : 0 ≤ k) (h1 : k ≤ 253402300799) (hc : civ (k / 86400) = (y, m, d)) (h mi se : Int) (e1 : k % 86400 / 3600 = h) (e2 : k % 86400 / 60 % 60 = mi) (e3 : k % 86400 % 60 = se) : CivO k y m d h mi se := fun w => by
  have := Civil_any k w (by omega) (by omega)
  rw [secs_in k h0 h1, hc] at this
  unfold Civ6End at this
  rw [e1, e2, e3] at this
  exact this
theorem civ_next6 (k : Int) (h0 : 0 ≤ k) (h1 : k < 253402300799) : ∃ y m d h mi se, CivO k y m d h mi se ∧ (0 ≤ y ∧ y ≤ 9999 ∧ 1 ≤ m ∧ m ≤ 12 ∧ 1 ≤ d ∧ d ≤ 31 ∧ 0 ≤ h ∧ h ≤ 23 ∧ 0 ≤ mi ∧ mi ≤ 59 ∧ 0 ≤ se ∧ se ≤ 59) ∧
    ((se < 59 ∧ CivO (k + 1) y m d h mi (se + 1)) ∨ (¬ se < 59 ∧ mi < 59 ∧ CivO (k + 1) y m d h (mi + 1) 0) ∨ (¬ se < 59 ∧ ¬ mi < 59 ∧ h < 23 ∧ CivO (k + 1) y m d (h + 1) 0 0) ∨
      (¬ se < 59 ∧ ¬ mi < 59 ∧ ¬ h < 23 ∧ CivO (k + 1) y m (d + 1) 0 0 0) ∨ (¬ se < 59 ∧ ¬ mi < 59 ∧ ¬ h < 23 ∧ 28 ≤ d ∧ CivO (k + 1) y (m + 1) 1 0 0 0) ∨
      (¬ se < 59 ∧ ¬ mi < 59 ∧ ¬ h < 23 ∧ m = 12 ∧ d = 31 ∧ CivO (k + 1) (y + 1) 1 1 0 0 0)) := by
  obtain ⟨c, hc⟩ : ∃ c, c = civ (k / 86400) := ⟨_, rfl⟩
  obtain ⟨y, m, d⟩ := c
  obtain ⟨v, e⟩ := civ_valid (k / 86400) (by omega)
  have yy := civ_year (k / 86400) (by omega) (by omega)
  rw [← hc] at v yy
  obtain ⟨m0, m1, d0, d1⟩ := v
  have hl := mdays_le y m
  dsimp only at m0 m1 d0 d1 yy
  refine ⟨y, m, d, k % 86400 / 3600, k % 86400 / 60 % 60, k % 86400 % 60, civO_is k y m d h0 (by omega) hc.symm _ _ _ rfl rfl rfl, ⟨by omega, by omega, by omega, by omega, by omega, by omega, by omega, by omega, by omega, by omega, by omega, by omega⟩, ?_⟩
  by_cases q1 : k % 86400 % 60 < 59
  · exact .inl ⟨q1, civO_is (k + 1) y m d (by omega) (by omega) (by rw [show (k + 1) / 86400 = k / 86400 by omega]; exact hc.symm) _ _ _ (by omega) (by omega) (by omega)⟩
  · by_cases q2 : k % 86400 / 60 % 60 < 59
    · exact .inr (.inl ⟨q1, q2, civO_is (k + 1) y m d (by omega) (by omega) (by rw [show (k + 1) / 86400 = k / 86400 by omega]; exact hc.symm) _ _ _ (by omega) (by omega) (by omega)⟩)
    · by_cases q3 : k % 86400 / 3600 < 23
      · exact .inr (.inr (.inl ⟨q1, q2, q3, civO_is (k + 1) y m d (by omega) (by omega) (by rw [show (k + 1) / 86400 = k / 86400 by omega]; exact hc.symm) _ _ _ (by omega) (by omega) (by omega)⟩))
      · have ek : (k + 1) / 86400 = k / 86400 + 1 := by omega
        have es : (k + 1) % 86400 = 0 := by omega
        rcases civ_next (k / 86400) y m d (by omega) (by omega) hc.symm with g | ⟨g1, g⟩ | ⟨g1, g2, g⟩
        · exact .inr (.inr (.inr (.inl ⟨q1, q2, q3, civO_is (k + 1) y m (d + 1) (by omega) (by omega) (by rw [ek]; exact g) _ _ _ (by omega) (by omega) (by omega)⟩)))
        · exact .inr (.inr (.inr (.inr (.inl ⟨q1, q2, q3, g1, civO_is (k + 1) y (m + 1) 1 (by omega) (by omega) (by rw [ek]; exact g) _ _ _ (by omega) (by omega) (by omega)⟩))))
        · exact .inr (.inr (.inr (.inr (.inr ⟨q1, q2, q3, g1, g2, civO_is (k + 1) (y + 1) 1 1 (by omega) (by omega) (by rw [ek]; exact g) _ _ _ (by omega) (by omega) (by omega)⟩))))
set_option maxRecDepth 100000 in
set_option maxHeartbeats 2000000 in
theorem next_walk (n : Int) (w0 : (Lit.int .u64 n).wf = true) (w : World) (hT : TabOK w) : Calls Tryd.prog 3 #[.int .u64 n] w fun e w' => e = .returned (.bool true) ∧ Below w.heap.size w w' := by
  obtain ⟨a0, a1⟩ : 0 ≤ n ∧ n ≤ 18446744073709551615 := by
    simp [Lit.wf, IntKind.min, IntKind.max, IntKind.signed, IntKind.bits] at w0; omega
  clear w0
  have hW := Below.refl w.heap.size w
  obtain ⟨y, m, d, h, mi, se, C1, hb, hcs⟩ := civ_next6 (n % 253402300799) (by omega) (by omega)
  have hk : 0 ≤ n % 253402300799 ∧ n % 253402300799 < 1000000000000 := by omega
  obtain ⟨hk0, hk1⟩ := hk
  obtain ⟨b0, b1, b2, b3, b4, b5, b6, b7, b8, b9, b10, b11⟩ := hb
  have HC1 := Lib.hid C1
  clear C1
  rcases hcs with ⟨q1, C2⟩ | ⟨q1, q2, C2⟩ | ⟨q1, q2, q3, C2⟩ | ⟨q1, q2, q3, C2⟩ | ⟨q1, q2, q3, q4, C2⟩ | ⟨q1, q2, q3, rfl, rfl, C2⟩
  all_goals
    have HC2 := Lib.hid C2
    clear C2
    try (have g1 : ((1 : Int) == d + 1) = false := by rw [beq_eq_false_iff_ne]; omega)
    go_enter Tryd.func3, Tryd.ntmps3
    go_wp2_with fail
    generalize n % 253402300799 = k at *
    clear a0 a1
    refine (HC1.out.at_ _).mono ?_; rintro e w1 ⟨rfl, hw⟩; obtain rfl : _ = w1 := hw
    go_wp2_with fail
    refine (HC2.out.at_ _).mono ?_; rintro e w1 ⟨rfl, hw⟩; obtain rfl : _ = w1 := hw
    go_wp2_with fail
    refine (awake_any _ (hT.below hW)).mono ?_; rintro e w1 ⟨rfl, hw1⟩; (first | replace hW := nextB hW hw1 | replace hW := nextA hW hw1 | replace hW := nextB hW.drew hw1 | replace hW := nextAA hW hw1 | replace hW := nextAD hW hw1); clear hw1
    go_wp2_with fail
    go_ret
    exact ⟨rfl, hW⟩
set_option maxRecDepth 100000 in
set_option maxHeartbeats 400000 in
theorem ends_walk (n : Int) (w0 : (Lit.int .u64 n).wf = true) (w : World) (hT : TabOK w) : Calls Tryd.prog 7 #[.int .u64 n] w fun e w' => e = .returned (.bool true) ∧ Below w.heap.size w w' := by
  obtain ⟨a0, a1⟩ : 0 ≤ n ∧ n ≤ 18446744073709551615 := by
    simp [Lit.wf, IntKind.min, IntKind.max, IntKind.signed, IntKind.bits] at w0; omega
  clear w0
  have hW := Below.refl w.heap.size w
  have C1 : Hid (StrIs 19 (-1 - n / 2) ⟨#[49, 57, 55, 48, 45, 48, 49, 45, 48, 49, 84, 48, 48, 58, 48, 48, 58, 48, 48, 90]⟩) := fun w hT => by
    rw [← rfc_low (-1 - n / 2) (by omega)]; exact Rfc_any _ w (by omega) (by omega) hT
  have C2 : Hid (StrIs 13 (-(n / 2)) ⟨#[32, 49, 45, 74, 97, 110, 45, 49, 57, 55, 48, 32, 48, 48, 58, 48, 48, 58, 48, 48, 32, 43, 48, 48, 48, 48]⟩) := fun w hT => by
    rw [← imap_low (-(n / 2)) (by omega)]; exact Imap_any _ w (by omega) (by omega) hT
  have C3 : Hid (StrIs 19 (253402300799 + n / 2 % 1000) ⟨#[57, 57, 57, 57, 45, 49, 50, 45, 51, 49, 84, 50, 51, 58, 53, 57, 58, 53, 57, 90]⟩) := fun w hT => by
    rw [← rfc_high (253402300799 + n / 2 % 1000) (by omega)]; exact Rfc_any _ w (by omega) (by omega) hT
  go_enter Tryd.func7, Tryd.ntmps7
  go_wp2_with fail
  refine (C1.out _ (hT.below hW)).mono ?_; rintro e w1 ⟨rfl, hw1⟩; (first | replace hW := nextB hW hw1 | replace hW := nextA hW hw1 | replace hW := nextB hW.drew hw1 | replace hW := nextAA hW hw1 | replace hW := nextAD hW hw1); clear hw1
  go_wp2_with fail
  refine (C2.out _ (hT.below hW)).mono ?_; rintro e w1 ⟨rfl, hw1⟩; (first | replace hW := nextB hW hw1 | replace hW := nextA hW hw1 | replace hW := nextB hW.drew hw1 | replace hW := nextAA hW hw1 | replace hW := nextAD hW hw1); clear hw1
  go_wp2_with fail
  refine (C3.out _ (hT.below hW)).mono ?_; rintro e w1 ⟨rfl, hw1⟩; (first | replace hW := nextB hW hw1 | replace hW := nextA hW hw1 | replace hW := nextB hW.drew hw1 | replace hW := nextAA hW hw1 | replace hW := nextAD hW hw1); clear hw1
  go_wp2_with fail
  refine (awake_any _ (hT.below hW)).mono ?_; rintro e w1 ⟨rfl, hw1⟩; (first | replace hW := nextB hW hw1 | replace hW := nextA hW hw1 | replace hW := nextB hW.drew hw1 | replace hW := nextAA hW hw1 | replace hW := nextAD hW hw1); clear hw1
  go_wp2_with fail
  go_ret
  exact ⟨rfl, hW⟩
end Go.Proofs.YtfhdnppcookcoaaDoor
