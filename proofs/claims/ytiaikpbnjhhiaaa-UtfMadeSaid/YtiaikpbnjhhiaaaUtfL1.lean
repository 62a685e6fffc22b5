/- UtfOrders: its walk. -/
import Derived.Test.YtiaikpbnjhhiaaaUtfLaws
import Derived.Test.YtiaikpbnjhhiaaaUtf1
namespace Go.Proofs.Ytiaikpbnjhhiaaa
open Go.RowKit Go.PlainAid
set_option linter.unusedVariables false
set_option linter.unusedSimpArgs false
theorem isEmpty_of {l : List UInt8} (h : l = []) : l.isEmpty = true := by rw [h]; rfl
theorem isEmpty_not {l : List UInt8} (h : l ≠ []) : l.isEmpty = false := by cases l with | nil => exact absurd rfl h | cons _ _ => rfl
theorem put_nil_of (x : Int) (h : ¬ GoodP x) : (put x).toList = [] := by
  rw [put_toList]
  by_cases e : putB x = []
  · exact e
  · exact absurd ((good_iff x).1 e) h
theorem put_ne_of (x : Int) (h : GoodP x) : ¬ (put x).toList = [] := by
  rw [put_toList]; exact (good_iff x).2 h
theorem orders_walk (a b : Int) (w0 : (Lit.int .u32 a).wf = true) (w1 : (Lit.int .u32 b).wf = true) (w : World) : Calls Try.prog 3 #[.int .u32 a, .int .u32 b] w fun e w' => e = .returned (.bool true) ∧ Below w.heap.size w w' := by
  obtain ⟨a0, a1⟩ : 0 ≤ a ∧ a < 4294967296 := by
    simp [Lit.wf, IntKind.min, IntKind.max, IntKind.signed, IntKind.bits] at w0; omega
  obtain ⟨b0, b1⟩ : 0 ≤ b ∧ b < 4294967296 := by
    simp [Lit.wf, IntKind.min, IntKind.max, IntKind.signed, IntKind.bits] at w1; omega
  clear w0 w1
  have hW := Below.refl w.heap.size w
  by_cases hx : GoodP (a % 1114112)
  · by_cases hy : GoodP (b % 1114112)
    · have f1 := put_ne_of _ hx
      have f2 := put_ne_of _ hy
      have f3 := isEmpty_not f1
      have f4 := isEmpty_not f2
      have f5 : Op.bytesLess (put (a % 1114112)).toList (put (b % 1114112)).toList = decide (a % 1114112 < b % 1114112) := by rw [put_toList, put_toList]; exact putB_less _ _ hx hy
      have f6 : ((put (a % 1114112)).toList == (put (b % 1114112)).toList) = (a % 1114112 == b % 1114112) := by
        rw [put_toList, put_toList, Bool.eq_iff_iff, beq_iff_eq, beq_iff_eq]
        exact ⟨putB_inj _ _ hx hy, fun h => by rw [h]⟩
      by_cases hle : a % 1114112 ≤ b % 1114112
      · have f7 : (put (a % 1114112)).size ≤ (put (b % 1114112)).size := by rw [put_size, put_size]; exact putB_len_le _ _ hx hy hle
        clear hx hy
        go_enter Try.func3, Try.ntmps3
        go_wp2_with (first | (go_at_call 9; refine (put_any _ _).mono ?_; rintro e w1 ⟨rfl, hw1⟩; replace hW := nextB hW hw1; clear hw1) | (go_at_call 10; refine (awake2_any _).mono ?_; rintro e w2 ⟨rfl, hw1⟩; replace hW := nextB hW hw1; clear hw1))
        go_ret
        exact ⟨rfl, hW⟩
      · clear hx hy
        go_enter Try.func3, Try.ntmps3
        go_wp2_with (first | (go_at_call 9; refine (put_any _ _).mono ?_; rintro e w1 ⟨rfl, hw1⟩; replace hW := nextB hW hw1; clear hw1) | (go_at_call 10; refine (awake2_any _).mono ?_; rintro e w2 ⟨rfl, hw1⟩; replace hW := nextB hW hw1; clear hw1))
        go_ret
        exact ⟨rfl, hW⟩
    · have f2 := put_nil_of _ hy
      have f3 := isEmpty_of f2
      unfold GoodP at hy
      by_cases f1 : (put (a % 1114112)).toList = []
      all_goals
        have g1 : 55296 ≤ b % 1114112 := by omega
        have g2 : b % 1114112 ≤ 57343 := by omega
        first | have f4 := isEmpty_of f1 | have f4 := isEmpty_not f1
        clear hx hy
        go_enter Try.func3, Try.ntmps3
        go_wp2_with (first | (go_at_call 9; refine (put_any _ _).mono ?_; rintro e w1 ⟨rfl, hw1⟩; replace hW := nextB hW hw1; clear hw1) | (go_at_call 10; refine (awake2_any _).mono ?_; rintro e w2 ⟨rfl, hw1⟩; replace hW := nextB hW hw1; clear hw1))
        all_goals
          go_ret
          exact ⟨rfl, hW⟩
  · have f1 := put_nil_of _ hx
    have f3 := isEmpty_of f1
    unfold GoodP at hx
    have g1 : 55296 ≤ a % 1114112 := by omega
    have g2 : a % 1114112 ≤ 57343 := by omega
    clear hx
    go_enter Try.func3, Try.ntmps3
    go_wp2_with (first | (go_at_call 9; refine (put_any _ _).mono ?_; rintro e w1 ⟨rfl, hw1⟩; replace hW := nextB hW hw1; clear hw1) | (go_at_call 10; refine (awake2_any _).mono ?_; rintro e w2 ⟨rfl, hw1⟩; replace hW := nextB hW hw1; clear hw1))
    all_goals
      go_ret
      exact ⟨rfl, hW⟩
end Go.Proofs.Ytiaikpbnjhhiaaa
