/- The law DateLeaps. -/
import Derived.Test.YtfhdnppcookcoaaDoorDate26
import Derived.Test.YtfhdnppcookcoaaDoorDate21
namespace Go.Proofs.YtfhdnppcookcoaaDoor
open Go.RowKit Go.PlainAid
set_option linter.unusedVariables false
set_option linter.unusedSimpArgs false
def y4 (y : Int) : List Int := [48 + y / 1000, 48 + y / 100 % 10, 48 + y / 10 % 10, 48 + y % 10]
theorem leap_texts (y : Int) (y0 : 1970 ≤ y) (y1 : y ≤ 9999) (Y : ByteArray) (hY : Y = digS y) :
    Y.size = 4 ∧ readDayV (⟨#[50, 57, 45, 70, 101, 98, 45]⟩ ++ Y) = (if leapB y = true then (dayNum y 2 29 * 86400, 0) else (0, 3)) ∧ readDayV (⟨#[51, 48, 45, 70, 101, 98, 45]⟩ ++ Y) = (0, 3) ∧
    readRfcV (Y ++ ⟨#[45, 48, 50, 45, 50, 57, 84, 48, 48, 58, 48, 48, 58, 48, 48, 90]⟩) = (if leapB y = true then (dayNum y 2 29 * 86400, 0) else (0, 3)) ∧
    readDayV (⟨#[50, 56, 45, 70, 101, 98, 45]⟩ ++ Y) = (dayNum y 2 28 * 86400, 0) ∧ readDayV (⟨#[49, 45, 77, 97, 114, 45]⟩ ++ Y) = (dayNum y 2 28 * 86400 + (if leapB y = true then 172800 else 86400), 0) ∧
    (0 ≤ dayNum y 2 28 * 86400 ∧ dayNum y 2 28 * 86400 ≤ 253402300800) := by
  have e4 : Y = strOfNums (y4 y) := by rw [hY]; exact digS_four y (by omega) (by omega)
  have hF : monV (strOfNums [70, 101, 98]) = 2 := by decide +kernel
  have hM : monV (strOfNums [77, 97, 114]) = 3 := by decide +kernel
  have dd : ∀ d : Int, 10 ≤ d → d ≤ 31 → ∀ c ∈ [48 + d / 10, 48 + d % 10], 0 ≤ c ∧ c < 256 ∧ c ≠ 45 := by
    intro d q0 q1 c hc
    simp only [List.mem_cons, List.not_mem_nil, or_false] at hc
    rcases hc with rfl | rfl <;> omega
  have feb : mdays y 2 = if leapB y = true then 29 else 28 := rfl
  have t : ∀ d : Int, 10 ≤ d → d ≤ 31 → readDayV (strOfNums ([48 + d / 10, 48 + d % 10] ++ 45 :: ([70, 101, 98] ++ 45 :: y4 y))) = if 1 ≤ d ∧ d ≤ mdays y 2 then (dayNum y 2 d * 86400, 0) else (0, 3) := fun d q0 q1 =>
    readDay_told [48 + d / 10, 48 + d % 10] d 70 101 98 y 2 (dd d q0 q1) (dnum_twoL d (by omega) (by omega)) (by simp) (by omega) (by omega) (by omega) hF (by omega) (by omega) y0 y1
  have t29 := t 29 (by omega) (by omega)
  have t30 := t 30 (by omega) (by omega)
  have t28 := t 28 (by omega) (by omega)
  have t1 := readDay_told [48 + 1] 1 77 97 114 y 3 (by intro x hx; simp only [List.mem_cons, List.not_mem_nil, or_false] at hx; subst hx; omega) (dnum_one 1 (by omega) (by omega)) (by simp) (by omega) (by omega) (by omega) hM (by omega) (by omega) y0 y1
  have l29 : (⟨#[50, 57, 45, 70, 101, 98, 45]⟩ : ByteArray) = strOfNums [50, 57, 45, 70, 101, 98, 45] := by decide +kernel
  have l30 : (⟨#[51, 48, 45, 70, 101, 98, 45]⟩ : ByteArray) = strOfNums [51, 48, 45, 70, 101, 98, 45] := by decide +kernel
  have l28 : (⟨#[50, 56, 45, 70, 101, 98, 45]⟩ : ByteArray) = strOfNums [50, 56, 45, 70, 101, 98, 45] := by decide +kernel
  have l1 : (⟨#[49, 45, 77, 97, 114, 45]⟩ : ByteArray) = strOfNums [49, 45, 77, 97, 114, 45] := by decide +kernel
  have lr : (⟨#[45, 48, 50, 45, 50, 57, 84, 48, 48, 58, 48, 48, 58, 48, 48, 90]⟩ : ByteArray) = strOfNums [45, 48, 50, 45, 50, 57, 84, 48, 48, 58, 48, 48, 58, 48, 48, 90] := by decide +kernel
  have hr := readRfc_told y 2 29 0 0 0 (by omega) y1 (by omega) (by omega) (by omega) (by omega) (by omega) (by omega) (by omega) (by omega) (by omega) (by omega)
  have hl28 := mdays_le y 2
  have v28 := dayNum_range y 2 28 y0 y1 ⟨by omega, by omega, by omega, by omega⟩
  have hn : dayNum y 3 1 = dayNum y 2 28 + (if leapB y = true then 2 else 1) := by
    have hs := bef_step y 2 (by omega)
    have e1 : bef y ((2 : Int) + 1 - 1).toNat = bef y ((3 : Int) - 1).toNat := rfl
    rw [e1, feb] at hs
    unfold dayNum
    split at hs <;> rename_i hb
    · rw [if_pos hb]; omega
    · rw [if_neg hb]; omega
  refine ⟨by rw [e4, strOfNums_size]; rfl, ?_, ?_, ?_, ?_, ?_, by omega⟩
  · rw [l29, e4, nums_app]
    refine Eq.trans t29 ?_
    rw [feb]
    by_cases hb : leapB y = true
    · rw [if_pos hb, if_pos hb, if_pos (by omega)]
    · rw [if_neg hb, if_neg hb, if_neg (by omega)]
  · rw [l30, e4, nums_app]
    refine Eq.trans t30 ?_
    rw [feb]
    by_cases hb : leapB y = true
    · rw [if_pos hb, if_neg (by omega)]
    · rw [if_neg hb, if_neg (by omega)]
  · rw [lr, e4, nums_app]
    refine Eq.trans hr ?_
    unfold rfcRead
    rw [feb]
    by_cases hb : leapB y = true
    · have hf := rfc_of_date y 2 29 0 0 0 y0 y1 ⟨by omega, by omega, by omega, by rw [feb, if_pos hb]; omega⟩ (by omega) (by omega) (by omega) (by omega) (by omega) (by omega)
      rw [if_pos hb, if_pos hb, hf, beq_self_eq_true, if_pos ⟨rfl, rfl, rfl, rfl, y0, by omega, by omega, by omega, by omega, rfl⟩]
      refine Prod.ext ?_ rfl
      show _ + (0 * 3600 + 0 * 60 + 0) = _
      omega
    · rw [if_neg hb, if_neg hb, if_neg (by omega)]
  · rw [l28, e4, nums_app]
    refine Eq.trans t28 ?_
    rw [if_pos ⟨by omega, by omega⟩]
  · rw [l1, e4, nums_app]
    refine Eq.trans t1 ?_
    have h31 : mdays y 3 = 31 := rfl
    rw [h31, if_pos ⟨by omega, by omega⟩, hn]
    refine Prod.ext ?_ rfl
    show (_ + _) * 86400 = _ + _
    by_cases hb : leapB y = true
    · rw [if_pos hb, if_pos hb]; omega
    · rw [if_neg hb, if_neg hb]; omega
theorem leap_cases (y : Int) : ((y % 4 == 0) = true ∧ (y % 100 != 0) = true ∧ leapB y = true) ∨ ((y % 4 == 0) = true ∧ (y % 100 != 0) = false ∧ (y % 400 == 0) = true ∧ leapB y = true) ∨ ((y % 4 == 0) = true ∧ (y % 100 != 0) = false ∧ (y % 400 == 0) = false ∧ leapB y = false) ∨ ((y % 4 == 0) = false ∧ (y % 400 == 0) = false ∧ leapB y = false) := by
  by_cases h4 : y % 4 = 0
  · have e4 : (y % 4 == 0) = true := by rw [beq_iff_eq]; exact h4
    by_cases h100 : y % 100 = 0
    · have e100 : (y % 100 != 0) = false := by simp [h100]
      have e100' : (y % 100 == 0) = true := by rw [beq_iff_eq]; exact h100
      by_cases h400 : y % 400 = 0
      · have e400 : (y % 400 == 0) = true := by rw [beq_iff_eq]; exact h400
        exact .inr (.inl ⟨e4, e100, e400, by unfold leapB; rw [e4, e100', e400]; rfl⟩)
      · have e400 : (y % 400 == 0) = false := by rw [beq_eq_false_iff_ne]; exact h400
        exact .inr (.inr (.inl ⟨e4, e100, e400, by unfold leapB; rw [e4, e100', e400]; rfl⟩))
    · have e100 : (y % 100 != 0) = true := by rw [bne_iff_ne]; exact h100
      have e100' : (y % 100 == 0) = false := by rw [beq_eq_false_iff_ne]; exact h100
      exact .inl ⟨e4, e100, by unfold leapB; rw [e4, e100']; rfl⟩
  · have e4 : (y % 4 == 0) = false := by rw [beq_eq_false_iff_ne]; exact h4
    have e400 : (y % 400 == 0) = false := by rw [beq_eq_false_iff_ne]; omega
    exact .inr (.inr (.inr ⟨e4, e400, by unfold leapB; rw [e4]; rfl⟩))
set_option maxRecDepth 100000 in
set_option maxHeartbeats 2000000 in
theorem leaps_walk (n : Int) (w0 : (Lit.int .u16 n).wf = true) (w : World) (hB : BaseOK w) : Calls Tryd.prog 10 #[.int .u16 n] w fun e w' => e = .returned (.bool true) ∧ Below w.heap.size w w' := by
  obtain ⟨a0, a1⟩ : 0 ≤ n ∧ n ≤ 65535 := by
    simp [Lit.wf, IntKind.min, IntKind.max, IntKind.signed, IntKind.bits] at w0; omega
  clear w0
  have hW := Below.refl w.heap.size w
  obtain ⟨Y, hY⟩ : ∃ Y, Y = digS (1970 + n % 8030) := ⟨_, rfl⟩
  have HD : Hid (RDigIs (1970 + n % 8030) Y) := fun w => by rw [hY]; exact rdigits_any (1970 + n % 8030).toNat _ w (by omega) (by omega)
  obtain ⟨z, t29, t30, tr, t28, t1, A0, A1⟩ := leap_texts (1970 + n % 8030) (by omega) (by omega) Y hY
  have hcs := leap_cases (1970 + n % 8030)
  clear hY
  have k0 : 1970 ≤ 1970 + n % 8030 := by omega
  have k1 : 1970 + n % 8030 ≤ 9999 := by omega
  have K0 := Lib.hid k0
  have K1 := Lib.hid k1
  clear k0 k1
  have sz : ∀ l : ByteArray, l.size ≤ 100 → (l ++ Y).size ≤ 1000 := fun l h => by rw [ByteArray.size_append]; omega
  have sz2 : ∀ l : ByteArray, l.size ≤ 100 → (Y ++ l).size ≤ 1000 := fun l h => by rw [ByteArray.size_append]; omega
  have R1 := Lib.hid (day_is _ _ (sz _ (by decide)) t29)
  have R2 := Lib.hid (day_is _ _ (sz _ (by decide)) t30)
  have R3 := Lib.hid (rfc_is _ _ (sz2 _ (by decide)) tr)
  have R4 := Lib.hid (day_is _ _ (sz _ (by decide)) t28)
  have R5 := Lib.hid (day_is _ _ (sz _ (by decide)) t1)
  clear t29 t30 tr t28 t1 sz sz2
  generalize dayNum (1970 + n % 8030) 2 28 * 86400 = A at *
  generalize dayNum (1970 + n % 8030) 2 29 * 86400 = C at *
  have g1 : ((A + 172800 - A : Int) == 172800) = true := by rw [beq_iff_eq]; omega
  have g2 : ((A + 86400 - A : Int) == 86400) = true := by rw [beq_iff_eq]; omega
  rcases hcs with ⟨q1, q2, q4⟩ | ⟨q1, q2, q3, q4⟩ | ⟨q1, q2, q3, q4⟩ | ⟨q1, q3, q4⟩
  all_goals
    rw [q4] at R1 R3 R5
    first | rw [if_pos rfl] at R1 R3 R5 | rw [if_neg (by simp)] at R1 R3 R5
    clear q4
    go_enter Tryd.func10, Tryd.ntmps10
    go_wp2_with fail
    generalize 1970 + n % 8030 = y at *
    have k0 := K0.out
    have k1 := K1.out
    clear a0 a1
    refine (HD.out _).mono ?_; rintro e w1 ⟨rfl, hw1⟩; (first | replace hW := nextB hW hw1 | replace hW := nextA hW hw1 | replace hW := nextB hW.drew hw1 | replace hW := nextAA hW hw1 | replace hW := nextAD hW hw1); clear hw1
    go_wp2_with fail
    refine (R1.out.at_ (hB.max hW)).mono ?_; rintro e w1 ⟨rfl, hw1⟩; (first | replace hW := nextB hW hw1 | replace hW := nextA hW hw1 | replace hW := nextB hW.drew hw1 | replace hW := nextAA hW hw1 | replace hW := nextAD hW hw1); clear hw1
    go_wp2_with fail
    refine (HD.out _).mono ?_; rintro e w1 ⟨rfl, hw1⟩; (first | replace hW := nextB hW hw1 | replace hW := nextA hW hw1 | replace hW := nextB hW.drew hw1 | replace hW := nextAA hW hw1 | replace hW := nextAD hW hw1); clear hw1
    go_wp2_with fail
    refine (R2.out.at_ (hB.max hW)).mono ?_; rintro e w1 ⟨rfl, hw1⟩; (first | replace hW := nextB hW hw1 | replace hW := nextA hW hw1 | replace hW := nextB hW.drew hw1 | replace hW := nextAA hW hw1 | replace hW := nextAD hW hw1); clear hw1
    go_wp2_with fail
    refine (HD.out _).mono ?_; rintro e w1 ⟨rfl, hw1⟩; (first | replace hW := nextB hW hw1 | replace hW := nextA hW hw1 | replace hW := nextB hW.drew hw1 | replace hW := nextAA hW hw1 | replace hW := nextAD hW hw1); clear hw1
    go_wp2_with fail
    refine (R3.out.at_ (hB.tab hW)).mono ?_; rintro e w1 ⟨rfl, hw1⟩; (first | replace hW := nextB hW hw1 | replace hW := nextA hW hw1 | replace hW := nextB hW.drew hw1 | replace hW := nextAA hW hw1 | replace hW := nextAD hW hw1); clear hw1
    go_wp2_with fail
    refine (HD.out _).mono ?_; rintro e w1 ⟨rfl, hw1⟩; (first | replace hW := nextB hW hw1 | replace hW := nextA hW hw1 | replace hW := nextB hW.drew hw1 | replace hW := nextAA hW hw1 | replace hW := nextAD hW hw1); clear hw1
    go_wp2_with fail
    refine (R4.out.at_ (hB.max hW)).mono ?_; rintro e w1 ⟨rfl, hw1⟩; (first | replace hW := nextB hW hw1 | replace hW := nextA hW hw1 | replace hW := nextB hW.drew hw1 | replace hW := nextAA hW hw1 | replace hW := nextAD hW hw1); clear hw1
    go_wp2_with fail
    refine (HD.out _).mono ?_; rintro e w1 ⟨rfl, hw1⟩; (first | replace hW := nextB hW hw1 | replace hW := nextA hW hw1 | replace hW := nextB hW.drew hw1 | replace hW := nextAA hW hw1 | replace hW := nextAD hW hw1); clear hw1
    go_wp2_with fail
    refine (R5.out.at_ (hB.max hW)).mono ?_; rintro e w1 ⟨rfl, hw1⟩; (first | replace hW := nextB hW hw1 | replace hW := nextA hW hw1 | replace hW := nextB hW.drew hw1 | replace hW := nextAA hW hw1 | replace hW := nextAD hW hw1); clear hw1
    go_wp2_with fail
    refine (num_any _ _).mono ?_; rintro e w1 ⟨rfl, hw⟩; obtain rfl : _ = w1 := hw
    go_wp2_with fail
    refine (num_any _ _).mono ?_; rintro e w1 ⟨rfl, hw⟩; obtain rfl : _ = w1 := hw
    go_wp2_with fail
    refine (num_any _ _).mono ?_; rintro e w1 ⟨rfl, hw⟩; obtain rfl : _ = w1 := hw
    go_wp2_with fail
    refine (num_any _ _).mono ?_; rintro e w1 ⟨rfl, hw⟩; obtain rfl : _ = w1 := hw
    go_wp2_with fail
    refine (num_any _ _).mono ?_; rintro e w1 ⟨rfl, hw⟩; obtain rfl : _ = w1 := hw
    go_wp2_with fail
    refine (awake_any _ (hB.tab hW)).mono ?_; rintro e w1 ⟨rfl, hw1⟩; (first | replace hW := nextB hW hw1 | replace hW := nextA hW hw1 | replace hW := nextB hW.drew hw1 | replace hW := nextAA hW hw1 | replace hW := nextAD hW hw1); clear hw1
    go_wp2_with fail
    go_ret
    exact ⟨rfl, hW⟩
end Go.Proofs.YtfhdnppcookcoaaDoor
