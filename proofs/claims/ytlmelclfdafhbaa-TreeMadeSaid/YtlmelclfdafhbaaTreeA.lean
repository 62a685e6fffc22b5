/- The walk of awake, chapter 16; TreeMatches. -/
import Derived.Test.YtlmelclfdafhbaaTreeR
import Derived.Test.YtlmelclfdafhbaaUtfVal
namespace Go.Proofs.Ytlmelclfdafhbaa
open Go.RowKit Go.PlainAid
set_option linter.unusedVariables false
set_option linter.unusedSimpArgs false
set_option maxHeartbeats 400000 in
theorem right_x (w : World) : Calls Try.prog 14 #[.string ⟨#[120]⟩] w fun e w' => e = .returned (.bool true) ∧ Below w.heap.size w w' := by
  have hW := Below.refl w.heap.size w
  have l0 : (⟨#[120]⟩ : ByteArray).toList = [120] := by rw [ByteArray.toList_eq]
  have v0 : validB (⟨#[120]⟩ : ByteArray).toList = true := by
    rw [l0]
    have e : decL [120] = some (120, 1) := by decide +kernel
    have := validB_some [120] 120 1 e
    rw [← this]
    exact validB_nil
  have b0 : bt ⟨#[120]⟩ 0 = 120 := by decide +kernel
  have s0 : (⟨#[120]⟩ : ByteArray).size = 1 := rfl
  have hb := get_bt ⟨#[120]⟩
  have HV : Hid (∀ w, Calls Try.prog 19 #[.string ⟨#[120]⟩] w fun e w' => e = .returned (.bool true) ∧ Below w.heap.size w w') := fun w => by
    have := valid_any ⟨#[120]⟩ w (by decide)
    rw [v0] at this
    exact this
  clear v0
  have HB := Lib.hid b0
  clear b0
  go_enter Try.func14, Try.ntmps14
  go_wp2_with (go_at_call 19; refine (HV.out _).mono ?_; rintro e w1 ⟨rfl, hw1⟩; (first | replace hW := nextB hW hw1 | replace hW := nextA hW hw1 | replace hW := nextB hW.drew hw1 | replace hW := nextAA hW hw1 | replace hW := nextAD hW hw1); clear hw1)
  go_loop [19] (fun i => ∃ k : Nat, k ≤ 1 ∧ i = .int .i64 k) (fun i => 1 - (intOf i).toNat)
  case atStart => exact ⟨0, by omega, rfl⟩
  case round =>
    obtain ⟨k, hk, rfl⟩ := hrel
    by_cases hlt : k < 1
    · have b0 : bt ⟨#[120]⟩ k = 120 := by obtain rfl : k = 0 := by omega
                                          exact HB.out
      go_wp2
      go_round
      case rel => exact ⟨k + 1, by omega, by go_num⟩
      case measure => simp [intOf]; omega
    · go_wp2
      go_ret
      exact ⟨rfl, hW⟩
def MatchAt (f : Nat) (p s : ByteArray) (v : Bool) : Prop := ∀ w, Calls Try.prog f #[.string p, .string s] w fun e w' => e = .returned (.bool v) ∧ Below w.heap.size w w'
theorem match_at (p s : ByteArray) (hp : p.size ≤ 1000) (hs : s.size ≤ 1000) (v : Bool) (h : matchB p s = v) : MatchAt 8 p s v := fun w => by
  rw [← h]; exact match_any p s w hp hs
theorem awake16_any (w : World) : Calls Try.prog 10 #[] w fun e w' => e = .returned (.bool true) ∧ Below w.heap.size w w' := by
  have hW := Below.refl w.heap.size w
  have M1 : Hid (MatchAt 8 ⟨#[97, 37]⟩ ⟨#[97, 47, 98]⟩ false) := match_at _ _ (by decide) (by decide) _ (by decide +kernel)
  have M2 : Hid (MatchAt 8 ⟨#[97, 42]⟩ ⟨#[97, 47, 98]⟩ true) := match_at _ _ (by decide) (by decide) _ (by decide +kernel)
  go_enter Try.func10, Try.ntmps10
  go_wp2_with fail
  refine (M1.out _).mono ?_; rintro e w1 ⟨rfl, hw1⟩; (first | replace hW := nextB hW hw1 | replace hW := nextA hW hw1 | replace hW := nextB hW.drew hw1 | replace hW := nextAA hW hw1 | replace hW := nextAD hW hw1); clear hw1
  go_wp2_with fail
  refine (M2.out _).mono ?_; rintro e w1 ⟨rfl, hw1⟩; (first | replace hW := nextB hW hw1 | replace hW := nextA hW hw1 | replace hW := nextB hW.drew hw1 | replace hW := nextAA hW hw1 | replace hW := nextAD hW hw1); clear hw1
  go_wp2_with (go_at_call 14; refine (right_x _).mono ?_; rintro e w1 ⟨rfl, hw1⟩; (first | replace hW := nextB hW hw1 | replace hW := nextA hW hw1 | replace hW := nextB hW.drew hw1 | replace hW := nextAA hW hw1 | replace hW := nextAD hW hw1); clear hw1)
  go_ret
  exact ⟨rfl, hW⟩
theorem matches_walk (p s : ByteArray) (w0 : p.size ≤ maxLen) (w1 : s.size ≤ maxLen) (w : World) : Calls Try.prog 3 #[.string p, .string s] w fun e w' => e = .returned (.bool true) ∧ Below w.heap.size w w' := by
  unfold maxLen at w0 w1
  have hW := Below.refl w.heap.size w
  by_cases hp : p.size ≤ 200
  · by_cases hs : s.size ≤ 500
    · go_enter Try.func3, Try.ntmps3
      go_wp2_with (first
        | (go_at_call 10; refine (awake16_any _).mono ?_; rintro e w1 ⟨rfl, hw1⟩; (first | replace hW := nextB hW hw1 | replace hW := nextA hW hw1 | replace hW := nextB hW.drew hw1 | replace hW := nextAA hW hw1 | replace hW := nextAD hW hw1); clear hw1)
        | (go_at_call 8; refine (match_any _ _ _ (by omega) (by omega)).mono ?_; rintro e w1 ⟨rfl, hw1⟩; (first | replace hW := nextB hW hw1 | replace hW := nextA hW hw1 | replace hW := nextB hW.drew hw1 | replace hW := nextAA hW hw1 | replace hW := nextAD hW hw1); clear hw1)
        | (go_at_call 9; refine (rmatch_any _ _ _ (by omega) (by omega)).mono ?_; rintro e w1 ⟨rfl, hw1⟩; (first | replace hW := nextB hW hw1 | replace hW := nextA hW hw1 | replace hW := nextB hW.drew hw1 | replace hW := nextAA hW hw1 | replace hW := nextAD hW hw1); clear hw1))
      go_ret
      exact ⟨rfl, hW⟩
    · go_enter Try.func3, Try.ntmps3
      go_wp2
      go_ret
      exact ⟨rfl, hW⟩
  · go_enter Try.func3, Try.ntmps3
    go_wp2
    go_ret
    exact ⟨rfl, hW⟩
end Go.Proofs.Ytlmelclfdafhbaa
