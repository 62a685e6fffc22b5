/- What the laws of canon call themselves: the example, an error's number, new values. -/
import Derived.Test.YtofkdeojabongaaDoorCprint
import Derived.Test.YtofkdeojabongaaDoorRprint
import Derived.Test.YtofkdeojabongaaDoorSizes
import Derived.Test.YtofkdeojabongaaDoorNode3
import Derived.Deep.RegionHeld3
namespace Go.Proofs.YtofkdeojabongaaDoor
open Go.RowKit Go.PlainAid
set_option linter.unusedVariables false
set_option linter.unusedSimpArgs false
theorem num3_any (n : Int) (w : World) : Calls Tryd.prog 12 #[.int .i64 n] w fun e w' => e = .returned (.int .i64 n) ∧ w = w' := by
  go_enter Tryd.func12, Tryd.ntmps12
  go_wp2_with fail
  go_ret
  exact ⟨rfl, rfl⟩
theorem TabAt.of {w : World} (h : TabOK w) : TabAt w.heap.size w := ⟨w, h, Nat.le_refl _, Below.refl _ _⟩
theorem rightD_nd0 : rightD (nd0 7) 0 = true := by
  unfold nd0
  rw [rightD_eq, rightLD_nil, keysB_nil]
  simp [bareF]
theorem putU_nd0 : putU (nd0 7) = [123, 125] := by
  unfold nd0 putU putL; rfl
theorem print_nd0 : printS (nd0 7) = ⟨#[123, 125]⟩ ∧ printE (nd0 7) = 0 := by
  rw [printS_eq, printE_eq, rightD_nd0, putU_nd0]
  exact ⟨rfl, rfl⟩
theorem size_nd0 (k : Int) : sizeOk (nd0 k) := by
  unfold nd0 sizeOk
  exact ⟨by omega, by decide, by simp, by simp, by unfold sizeOkL; trivial⟩
theorem gN_nd0 (k : Int) : gN (nd0 k) = 40 := by
  unfold nd0 gN gL; rfl
set_option maxRecDepth 100000 in
theorem awake8_any (w : World) (hT : TabOK w) : Calls Tryd.prog 10 #[] w (BoolBel true w) := by
  have HC : Hid (Calls Tryd.prog 11 #[.agg #[.int .i64 7, .int .i64 0, .string ⟨#[]⟩, .slice none 0 0, .slice none 0 0]] w (StrErr ⟨#[123, 125]⟩ 0 w)) := by
    have h := CPrint_any (nd0 7) _ w w.heap.size (nd0_is 7 (by unfold I64; omega) w _) (Nat.le_refl _) (TabAt.of hT) (fun hr => good_of _ 0 (size_nd0 7) hr) (by rw [gN_nd0]; omega)
    rw [print_nd0.1, print_nd0.2] at h
    exact h
  go_enter Tryd.func10, Tryd.ntmps10
  go_wp2_with fail
  refine HC.out.mono ?_; rintro e w1 ⟨rfl, hw1⟩
  go_wp2_with fail
  refine (num3_any _ _).mono ?_; rintro e w2 ⟨rfl, hw⟩; obtain rfl : _ = w2 := hw
  go_wp2_with fail
  go_ret
  exact ⟨rfl, hw1⟩
end Go.Proofs.YtofkdeojabongaaDoor
