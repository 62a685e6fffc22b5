/- Numbers of two and of four digits. -/
import Derived.Test.YtfhdnppcookcoaaDoorDate3
namespace Go.Proofs.YtfhdnppcookcoaaDoor
open Go.RowKit Go.PlainAid
set_option linter.unusedVariables false
set_option linter.unusedSimpArgs false
theorem nums_app (a b : List Int) : strOfNums a ++ strOfNums b = strOfNums (a ++ b) := by
  apply ba_ext'
  rw [app_toList, nums_toList, nums_toList, nums_toList, List.map_append]
theorem digS_two (n : Int) (h0 : 10 ≤ n) (h1 : n < 100) : digS n = strOfNums [48 + n / 10, 48 + n % 10] := by
  rw [digS_more n h0, digS_one (n / 10) (by omega) (by omega), nums_app]; rfl
theorem digS_three (n : Int) (h0 : 100 ≤ n) (h1 : n < 1000) : digS n = strOfNums [48 + n / 100, 48 + n / 10 % 10, 48 + n % 10] := by
  rw [digS_more n (by omega), digS_two (n / 10) (by omega) (by omega), nums_app]
  have : n / 10 / 10 = n / 100 := by omega
  rw [this]; rfl
theorem digS_four (n : Int) (h0 : 1000 ≤ n) (h1 : n < 10000) : digS n = strOfNums [48 + n / 1000, 48 + n / 100 % 10, 48 + n / 10 % 10, 48 + n % 10] := by
  rw [digS_more n (by omega), digS_three (n / 10) (by omega) (by omega), nums_app]
  have : n / 10 / 100 = n / 1000 := by omega
  have h2 : n / 10 / 10 = n / 100 := by omega
  rw [this, h2]; rfl
theorem zeros_ba (k : Nat) : (⟨(Lib.repeatL [48] k).toArray⟩ : ByteArray) = strOfNums (List.replicate k 48) := by
  apply ba_ext'
  rw [nums_toList, ByteArray.toList_eq]
  show Lib.repeatL [48] k = _
  induction k with
  | zero => rfl
  | succ k ih =>
    rw [List.replicate_succ, List.map_cons, ← ih]
    simp [Lib.repeatL]
theorem wideS_two (n : Int) (h0 : 0 ≤ n) (h1 : n < 100) : wideS n 2 = strOfNums [48 + n / 10, 48 + n % 10] := by
  unfold wideS
  rw [zeros_ba]
  by_cases h : n < 10
  · rw [digS_one n h0 h, strOfNums_size, nums_app]
    have e : n / 10 = 0 := by omega
    have e2 : n % 10 = n := by omega
    rw [e, e2]; rfl
  · rw [digS_two n (by omega) h1, strOfNums_size, nums_app]; rfl
theorem wideS_four (n : Int) (h0 : 1000 ≤ n) (h1 : n < 10000) : wideS n 4 = strOfNums [48 + n / 1000, 48 + n / 100 % 10, 48 + n / 10 % 10, 48 + n % 10] := by
  unfold wideS
  rw [zeros_ba, digS_four n h0 h1, strOfNums_size, nums_app]; rfl
theorem wideS_two_size (n : Int) (h0 : 0 ≤ n) (h1 : n < 100) : (wideS n 2).size = 2 := by rw [wideS_two n h0 h1, strOfNums_size]; rfl
theorem wideS_four_size (n : Int) (h0 : 1000 ≤ n) (h1 : n < 10000) : (wideS n 4).size = 4 := by rw [wideS_four n h0 h1, strOfNums_size]; rfl
end Go.Proofs.YtfhdnppcookcoaaDoor
