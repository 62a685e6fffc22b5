/- The walks of package utf8. -/
import Derived.Test.YtlmelclfdafhbaaUtf0
import Derived.Deep.RegionWith
namespace Go.Proofs.Ytlmelclfdafhbaa
open Go.RowKit Go.PlainAid
set_option linter.unusedVariables false
set_option linter.unusedSimpArgs false
theorem ret2 {a b c d : Int} (h1 : a = c) (h2 : b = d) : Ending.returned (.tuple #[.int .i64 a, .int .i64 b]) = .returned (.tuple #[.int .i64 c, .int .i64 d]) := by rw [h1, h2]
theorem more_any (r : Int) (w : World) (h0 : 0 ≤ r) (h1 : r < 2097152) : Calls Try.prog 32 #[.int .i64 r] w fun e w' => e = .returned (.int .u8 (128 + r % 64)) ∧ w = w' := by
  have e : bits BinOp.or IntKind.i64 128 (bits BinOp.and IntKind.i64 r 63) % 256 = 128 + r % 64 := by
    rw [i64_and63 r h0 (by omega), i64_join 6 128 (r % 64) (by omega) (by omega) (by omega) (by omega) (by omega) (by omega)]; omega
  have E := Lib.hid e
  clear e
  go_enter Try.func32, Try.ntmps32
  go_wp2
  go_ret
  exact ⟨congrArg (fun x => Ending.returned (.int .u8 x)) E.out, rfl⟩
theorem put_0 (r : Int) (w : World) (h : r < 0) : Calls Try.prog 29 #[.int .i64 r] w fun e w' => e = .returned (.string (strOfNums [])) ∧ Below w.heap.size w w' := by
  go_enter Try.func29, Try.ntmps29
  go_wp2
  go_ret
  exact ⟨rfl, (Below.refl _ _)⟩
theorem put_0' (r : Int) (w : World) (h : 1114111 < r) : Calls Try.prog 29 #[.int .i64 r] w fun e w' => e = .returned (.string (strOfNums [])) ∧ Below w.heap.size w w' := by
  go_enter Try.func29, Try.ntmps29
  go_wp2
  go_ret
  exact ⟨rfl, (Below.refl _ _)⟩
theorem put_0'' (r : Int) (w : World) (h0 : 55296 ≤ r) (h : r ≤ 57343) : Calls Try.prog 29 #[.int .i64 r] w fun e w' => e = .returned (.string (strOfNums [])) ∧ Below w.heap.size w w' := by
  go_enter Try.func29, Try.ntmps29
  go_wp2
  go_ret
  exact ⟨rfl, (Below.refl _ _)⟩
theorem put_1 (r : Int) (w : World) (h0 : 0 ≤ r) (h : r < 128) : Calls Try.prog 29 #[.int .i64 r] w fun e w' => e = .returned (.string (strOfNums [r])) ∧ Below w.heap.size w w' := by
  have c1 := conv1 (P := Try.prog) 25 9 5 Try.underlying25 Try.underlying5 Try.underlying9
  go_enter Try.func29, Try.ntmps29
  go_wp2
  go_ret
  exact ⟨rfl, (Below.refl _ _).alloc (Nat.le_refl _) _⟩
theorem put_2 (r : Int) (w : World) (h0 : 128 ≤ r) (h : r < 2048) : Calls Try.prog 29 #[.int .i64 r] w fun e w' => e = .returned (.string (strOfNums [192 + r / 64, 128 + r % 64])) ∧ Below w.heap.size w w' := by
  have c1 := conv2 (P := Try.prog) 25 9 5 Try.underlying25 Try.underlying5 Try.underlying9
  have e1 : bits BinOp.or IntKind.i64 192 (r / 64) = 192 + r / 64 := i64_join 6 192 (r / 64) (by omega) (by omega) (by omega) (by omega) (by omega) (by omega)
  go_enter Try.func29, Try.ntmps29
  go_wp2_with (go_at_call 32; refine (more_any _ _ (by omega) (by omega)).mono ?_; rintro e w' ⟨rfl, rfl⟩)
  go_ret
  exact ⟨rfl, (Below.refl _ _).alloc (Nat.le_refl _) _⟩
theorem put_3 (r : Int) (w : World) (h0 : 2048 ≤ r) (h : r < 65536) (h' : r < 55296 ∨ 57343 < r) : Calls Try.prog 29 #[.int .i64 r] w fun e w' => e = .returned (.string (strOfNums [224 + r / 4096, 128 + r / 64 % 64, 128 + r % 64])) ∧ Below w.heap.size w w' := by
  have c1 := conv3 (P := Try.prog) 25 9 5 Try.underlying25 Try.underlying5 Try.underlying9
  have e1 : bits BinOp.or IntKind.i64 224 (r / 4096) = 224 + r / 4096 := i64_join 5 224 (r / 4096) (by omega) (by omega) (by omega) (by omega) (by omega) (by omega)
  rcases h' with h' | h'
  all_goals
    go_enter Try.func29, Try.ntmps29
    go_wp2_with (go_at_call 32; refine (more_any _ _ (by omega) (by omega)).mono ?_; rintro e w' ⟨rfl, rfl⟩)
    go_ret
    exact ⟨rfl, (Below.refl _ _).alloc (Nat.le_refl _) _⟩
theorem put_4 (r : Int) (w : World) (h0 : 65536 ≤ r) (h : r ≤ 1114111) : Calls Try.prog 29 #[.int .i64 r] w fun e w' => e = .returned (.string (strOfNums [240 + r / 262144, 128 + r / 4096 % 64, 128 + r / 64 % 64, 128 + r % 64])) ∧ Below w.heap.size w w' := by
  have c1 := conv4 (P := Try.prog) 25 9 5 Try.underlying25 Try.underlying5 Try.underlying9
  have e1 : bits BinOp.or IntKind.i64 240 (r / 262144) = 240 + r / 262144 := i64_join 4 240 (r / 262144) (by omega) (by omega) (by omega) (by omega) (by omega) (by omega)
  go_enter Try.func29, Try.ntmps29
  go_wp2_with (go_at_call 32; refine (more_any _ _ (by omega) (by omega)).mono ?_; rintro e w' ⟨rfl, rfl⟩)
  go_ret
  exact ⟨rfl, (Below.refl _ _).alloc (Nat.le_refl _) _⟩
theorem put_any (r : Int) (w : World) : Calls Try.prog 29 #[.int .i64 r] w fun e w' => e = .returned (.string (put r)) ∧ Below w.heap.size w w' := by
  unfold put putN
  split
  · rename_i h
    rcases h with h | h | h
    · exact put_0 r w h
    · exact put_0' r w h
    · exact put_0'' r w h.1 h.2
  · split
    · exact put_1 r w (by omega) (by omega)
    · split
      · exact put_2 r w (by omega) (by omega)
      · split
        · exact put_3 r w (by omega) (by omega) (by omega)
        · exact put_4 r w (by omega) (by omega)
theorem size_any (c : Int) (w : World) (h0 : 0 ≤ c) (h : c < 256) : Calls Try.prog 28 #[.int .u8 c] w fun e w' => e = .returned (.tuple #[.int .i64 (sizeN c).1, .int .i64 (sizeN c).2]) ∧ w = w' := by
  have a1 := u8_and31 c h0 h
  have a2 := u8_and15 c h0 h
  have a3 := u8_and7 c h0 h
  go_enter Try.func28, Try.ntmps28
  go_wp2
  all_goals
    go_ret2
    refine ⟨ret2 ?_ ?_, rfl⟩ <;> (unfold sizeN; repeat' split) <;> first | rfl | omega
end Go.Proofs.Ytlmelclfdafhbaa
