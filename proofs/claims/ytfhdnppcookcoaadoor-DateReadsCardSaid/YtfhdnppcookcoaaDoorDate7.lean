/- The walk of ReadImap. -/
import Derived.Test.YtfhdnppcookcoaaDoorDate6
namespace Go.Proofs.YtfhdnppcookcoaaDoor
open Go.RowKit Go.PlainAid
set_option linter.unusedVariables false
set_option linter.unusedSimpArgs false
def dayW (s : ByteArray) : ByteArray := if bt s 0 = 32 then ⟨#[48]⟩ ++ (s.extract 0 2).extract 1 2 else s.extract 0 2
def readImapV (s : ByteArray) : Int × Int :=
  if s.size = 26 ∧ bt s 2 = 45 ∧ bt s 6 = 45 ∧ bt s 11 = 32 ∧ bt s 20 = 32 then
    (if (dateV (dayW s) (s.extract 3 6) (s.extract 7 11)).2 = true ∧ (clockV (s.extract 12 20)).2 = true ∧ (zoneV (s.extract 21 26)).2 = true ∧
        0 ≤ (dateV (dayW s) (s.extract 3 6) (s.extract 7 11)).1 * 86400 + (clockV (s.extract 12 20)).1 - (zoneV (s.extract 21 26)).1 ∧
        (dateV (dayW s) (s.extract 3 6) (s.extract 7 11)).1 * 86400 + (clockV (s.extract 12 20)).1 - (zoneV (s.extract 21 26)).1 ≤ 253402300799 then
      ((dateV (dayW s) (s.extract 3 6) (s.extract 7 11)).1 * 86400 + (clockV (s.extract 12 20)).1 - (zoneV (s.extract 21 26)).1, 0) else (0, 3))
  else (0, 3)
theorem read_cases (a b c : Bool) (n : Int) (v : Int × Int) (hv : v = if a = true ∧ b = true ∧ c = true ∧ 0 ≤ n ∧ n ≤ 253402300799 then (n, 0) else (0, 3)) :
    (a = false ∧ v = (0, 3)) ∨ (a = true ∧ b = false ∧ v = (0, 3)) ∨ (a = true ∧ b = true ∧ c = false ∧ v = (0, 3)) ∨ (a = true ∧ b = true ∧ c = true ∧ n < 0 ∧ v = (0, 3)) ∨
    (a = true ∧ b = true ∧ c = true ∧ 0 ≤ n ∧ 253402300799 < n ∧ v = (0, 3)) ∨ (a = true ∧ b = true ∧ c = true ∧ 0 ≤ n ∧ n ≤ 253402300799 ∧ v = (n, 0)) := by
  subst hv
  cases a with
  | false => exact .inl ⟨rfl, if_neg (by simp)⟩
  | true =>
    cases b with
    | false => exact .inr (.inl ⟨rfl, rfl, if_neg (by simp)⟩)
    | true =>
      cases c with
      | false => exact .inr (.inr (.inl ⟨rfl, rfl, rfl, if_neg (by simp)⟩))
      | true =>
        by_cases h1 : 0 ≤ n
        · by_cases h2 : n ≤ 253402300799
          · exact .inr (.inr (.inr (.inr (.inr ⟨rfl, rfl, rfl, h1, h2, if_pos ⟨rfl, rfl, rfl, h1, h2⟩⟩))))
          · exact .inr (.inr (.inr (.inr (.inl ⟨rfl, rfl, rfl, h1, by omega, if_neg (by omega)⟩))))
        · exact .inr (.inr (.inr (.inl ⟨rfl, rfl, rfl, by omega, if_neg (by omega)⟩)))
theorem dateV_le (a b c : ByteArray) (h1 : a.size ≤ 10) (h2 : c.size ≤ 4) : -1000000 ≤ (dateV a b c).1 ∧ (dateV a b c).1 ≤ 10000000 := by
  unfold dateV
  split
  · rename_i h
    obtain ⟨_, _, _, q1, q2, q3⟩ := h
    have z1 := dnum_small c (by omega)
    have z2 := dnum_four c h2
    have z3 := monV_le b
    have z4 := mdays_le (dnumV c).1 (monV b)
    show -1000000 ≤ dayNum _ _ _ ∧ dayNum _ _ _ ≤ 10000000
    rw [← daysV_eq _ _ _ z1.1 (by omega) z3.2]
    unfold daysV
    simp only []
    split <;> omega
  · simp
theorem clockV_le (s : ByteArray) : 0 ≤ (clockV s).1 ∧ (clockV s).1 ≤ 100000000000000 := by
  unfold clockV
  have z1 := dnum_small (s.extract 0 2) (by have := ext_le s 0 2; omega)
  have z2 := dnum_small (s.extract 3 5) (by have := ext_le s 3 5; omega)
  have z3 := dnum_small (s.extract 6 8) (by have := ext_le s 6 8; omega)
  split
  · show 0 ≤ _ * 3600 + _ * 60 + _ ∧ _ * 3600 + _ * 60 + _ ≤ _
    omega
  · simp
theorem zoneV_le (s : ByteArray) : -100000000000000 ≤ (zoneV s).1 ∧ (zoneV s).1 ≤ 100000000000000 := by
  unfold zoneV
  have z1 := dnum_small (s.extract 1 3) (by have := ext_le s 1 3; omega)
  have z2 := dnum_small (s.extract 3 5) (by have := ext_le s 3 5; omega)
  split
  · dsimp only
    split <;> omega
  · simp
end Go.Proofs.YtfhdnppcookcoaaDoor
