/- The law DateOrders. -/
import Derived.Test.YtfhdnppcookcoaaDoorDate11
import Derived.Test.YtfhdnppcookcoaaDoorDate14
namespace Go.Proofs.YtfhdnppcookcoaaDoor
open Go.RowKit Go.PlainAid
set_option linter.unusedVariables false
set_option linter.unusedSimpArgs false
theorem rfcS_size (x : Int) : (rfcS x).size = 20 := by
  have s := secs_le x
  obtain ⟨v, e⟩ := civ_valid (secs x / 86400) (by omega)
  have yy := civ_year (secs x / 86400) (by omega) (by omega)
  have hD3 := mdays_le (civ (secs x / 86400)).1 (civ (secs x / 86400)).2.1
  obtain ⟨m0, m1, d0, d1⟩ := v
  unfold rfcS rfcV
  simp only [ByteArray.size_append]
  rw [wideS_four_size _ (by omega) (by omega), wideS_two_size _ (by omega) (by omega), wideS_two_size _ (by omega) (by omega), wideS_two_size _ (by omega) (by omega), wideS_two_size _ (by omega) (by omega), wideS_two_size _ (by omega) (by omega)]
  rfl
theorem rfc_cases (x y : Int) (h0 : 0 ≤ x) (h1 : x ≤ 253402300799) (h2 : 0 ≤ y) (h3 : y ≤ 253402300799) :
    (decide (x < y) = true ∧ (x == y) = false ∧ Op.bytesLess (rfcS x).toList (rfcS y).toList = true ∧ ((rfcS x).toList == (rfcS y).toList) = false) ∨
    (decide (x < y) = false ∧ (x == y) = true ∧ Op.bytesLess (rfcS x).toList (rfcS y).toList = false ∧ ((rfcS x).toList == (rfcS y).toList) = true) ∨
    (decide (x < y) = false ∧ (x == y) = false ∧ Op.bytesLess (rfcS x).toList (rfcS y).toList = false ∧ ((rfcS x).toList == (rfcS y).toList) = false) := by
  rcases Int.lt_trichotomy x y with h | h | h
  · have k := rfc_less x y h0 h h3
    refine .inl ⟨by simpa using h, by rw [beq_eq_false_iff_ne]; omega, k, ?_⟩
    rw [beq_eq_false_iff_ne]; intro e; rw [e, less_irrefl] at k; cases k
  · subst h
    exact .inr (.inl ⟨by simp, by simp, less_irrefl _, by simp⟩)
  · have k := rfc_less y x h2 h h1
    refine .inr (.inr ⟨by simp; omega, by rw [beq_eq_false_iff_ne]; omega, less_asymm _ _ k, ?_⟩)
    rw [beq_eq_false_iff_ne]; intro e; rw [e, less_irrefl] at k; cases k
set_option maxRecDepth 100000 in
set_option maxHeartbeats 1000000 in
theorem orders_walk (a b : Int) (w0 : (Lit.int .u64 a).wf = true) (w1 : (Lit.int .u64 b).wf = true) (w : World) (hT : TabOK w) : Calls Tryd.prog 6 #[.int .u64 a, .int .u64 b] w fun e w' => e = .returned (.bool true) ∧ Below w.heap.size w w' := by
  obtain ⟨a0, a1⟩ : 0 ≤ a ∧ a ≤ 18446744073709551615 := by
    simp [Lit.wf, IntKind.min, IntKind.max, IntKind.signed, IntKind.bits] at w0; omega
  obtain ⟨b0, b1⟩ : 0 ≤ b ∧ b ≤ 18446744073709551615 := by
    simp [Lit.wf, IntKind.min, IntKind.max, IntKind.signed, IntKind.bits] at w1; omega
  clear w0 w1
  have hW := Below.refl w.heap.size w
  have C1 : Hid (StrIs 19 (a % 253402300800) (rfcS (a % 253402300800))) := fun w hT => Rfc_any _ w (by omega) (by omega) hT
  have C2 : Hid (StrIs 19 (b % 253402300800) (rfcS (b % 253402300800))) := fun w hT => Rfc_any _ w (by omega) (by omega) hT
  have hcs := rfc_cases (a % 253402300800) (b % 253402300800) (by omega) (by omega) (by omega) (by omega)
  have z1 := rfcS_size (a % 253402300800)
  generalize rfcS (a % 253402300800) = S at *
  generalize rfcS (b % 253402300800) = T at *
  rcases hcs with ⟨q1, q2, q3, q4⟩ | ⟨q1, q2, q3, q4⟩ | ⟨q1, q2, q3, q4⟩
  all_goals
    have Q1 := Lib.hid q1
    have Q2 := Lib.hid q2
    clear q1 q2
    go_enter Tryd.func6, Tryd.ntmps6
    go_wp2_with fail
    generalize a % 253402300800 = x at *
    generalize b % 253402300800 = y at *
    have q1 := Q1.out
    have q2 := Q2.out
    clear a0 a1 b0 b1
    refine (C1.out _ (hT.below hW)).mono ?_; rintro e w1 ⟨rfl, hw1⟩; (first | replace hW := nextB hW hw1 | replace hW := nextA hW hw1 | replace hW := nextB hW.drew hw1 | replace hW := nextAA hW hw1 | replace hW := nextAD hW hw1); clear hw1
    go_wp2_with fail
    refine (C2.out _ (hT.below hW)).mono ?_; rintro e w1 ⟨rfl, hw1⟩; (first | replace hW := nextB hW hw1 | replace hW := nextA hW hw1 | replace hW := nextB hW.drew hw1 | replace hW := nextAA hW hw1 | replace hW := nextAD hW hw1); clear hw1
    go_wp2_with fail
    refine (awake_any _ (hT.below hW)).mono ?_; rintro e w1 ⟨rfl, hw1⟩; (first | replace hW := nextB hW hw1 | replace hW := nextA hW hw1 | replace hW := nextB hW.drew hw1 | replace hW := nextAA hW hw1 | replace hW := nextAD hW hw1); clear hw1
    go_wp2_with fail
    go_ret
    exact ⟨rfl, hW⟩
end Go.Proofs.YtfhdnppcookcoaaDoor
