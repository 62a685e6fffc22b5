/- UtfAll: its walk. -/
import Derived.Test.YtiaikpbnjhhiaaaUtfL1
namespace Go.Proofs.Ytiaikpbnjhhiaaa
open Go.RowKit Go.PlainAid
set_option linter.unusedVariables false
set_option linter.unusedSimpArgs false
theorem i64_rng {n : Int} (h : (Lit.int .i64 n).wf = true) : -9223372036854775808 ≤ n ∧ n ≤ 9223372036854775807 := by
  simp [Lit.wf, IntKind.min, IntKind.max, IntKind.signed, IntKind.bits] at h; omega
theorem u32_rng {n : Int} (h : (Lit.int .u32 n).wf = true) : 0 ≤ n ∧ n < 4294967296 := by
  simp [Lit.wf, IntKind.min, IntKind.max, IntKind.signed, IntKind.bits] at h; omega
theorem u8_rng {n : Int} (h : (Lit.int .u8 n).wf = true) : 0 ≤ n ∧ n < 256 := by
  simp [Lit.wf, IntKind.min, IntKind.max, IntKind.signed, IntKind.bits] at h; omega
theorem app_toList (a b : ByteArray) : (a ++ b).toList = a.toList ++ b.toList := by
  rw [ByteArray.toList_eq, ByteArray.toList_eq, ByteArray.toList_eq, ByteArray.data_append, Array.toList_append]
theorem getL_mid (a b : List UInt8) (r : Int) (h : GoodP r) : getL (a ++ putB r ++ b) a.length = (r, (a.length : Int) + (putB r).length) := by
  unfold getL
  rw [List.append_assoc, List.drop_left, decL_put r b ((good_iff r).2 h)]
theorem getI_mid (a b : ByteArray) (r : Int) (h : GoodP r) : getI (a ++ put r ++ b) a.size = (r, (a.size : Int) + (put r).size) := by
  have hp : 0 < (put r).size := by rw [put_size]; exact List.length_pos_iff.2 ((good_iff r).2 h)
  unfold getI
  rw [if_neg (by simp only [ByteArray.size_append]; omega), app_toList, app_toList, put_toList]
  have := getL_mid a.toList b.toList r h
  rw [toList_len] at this
  rw [put_size, Int.toNat_natCast]
  exact this
theorem all_walk (s : ByteArray) (k n r : Int) (ws : s.size ≤ maxLen) (wk : (Lit.int .i64 k).wf = true) (wn : (Lit.int .i64 n).wf = true) (wr : (Lit.int .i64 r).wf = true) (w : World) : Calls Try.prog 5 #[.string s, .int .i64 k, .int .i64 n, .int .i64 r] w fun e w' => e = .returned (.bool true) ∧ Below w.heap.size w w' := by
  obtain ⟨n0, n1⟩ := i64_rng wn
  unfold maxLen at ws
  clear wk wn wr
  have hW := Below.refl w.heap.size w
  by_cases hs : s.size ≤ 3000
  all_goals
    go_enter Try.func5, Try.ntmps5
    go_wp2_with (first
      | (go_at_call 10; refine (awake2_any _).mono ?_; rintro e w1 ⟨rfl, hw1⟩; replace hW := nextB hW hw1; clear hw1)
      | (go_at_call 11; refine (get_int _ _ _ ws).mono ?_; rintro e w1 ⟨rfl, hw1⟩; replace hW := nextB hW hw1; clear hw1)
      | (go_at_call 13; refine (rget_int _ _ _ ws).mono ?_; rintro e w1 ⟨rfl, hw1⟩; replace hW := nextB hW hw1; clear hw1)
      | (go_at_call 9; refine (put_any _ _).mono ?_; rintro e w1 ⟨rfl, hw1⟩; replace hW := nextB hW hw1; clear hw1)
      | (go_at_call 14; refine (rput_any _ _).mono ?_; rintro e w1 ⟨rfl, hw1⟩; replace hW := nextB hW hw1; clear hw1)
      | (go_at_call 12; refine (valid_any _ _ ws).mono ?_; rintro e w1 ⟨rfl, hw1⟩; replace hW := nextB hW hw1; clear hw1)
      | (go_at_call 15; refine (rvalid_any _ _ ws).mono ?_; rintro e w1 ⟨rfl, hw1⟩; replace hW := nextB hW hw1; clear hw1)
      | (go_at_call 16; refine (cut_any _ _ _ ws n1).mono ?_; rintro e w1 ⟨rfl, hw1⟩; replace hW := nextB hW hw1; clear hw1)
      | (go_at_call 17; refine (rcut_any _ _ _ ws n1 n0).mono ?_; rintro e w1 ⟨rfl, hw1⟩; replace hW := nextB hW hw1; clear hw1))
    go_ret
    exact ⟨rfl, hW⟩
theorem back_walk (r : Int) (a b : ByteArray) (w0 : (Lit.int .u32 r).wf = true) (w1 : a.size ≤ maxLen) (w2 : b.size ≤ maxLen) (w : World) : Calls Try.prog 4 #[.int .u32 r, .string a, .string b] w fun e w' => e = .returned (.bool true) ∧ Below w.heap.size w w' := by
  obtain ⟨r0, r1⟩ := u32_rng w0
  clear w0
  unfold maxLen at w1 w2
  have hW := Below.refl w.heap.size w
  by_cases ha : a.size ≤ 100
  · by_cases hb : b.size ≤ 100
    · by_cases hx : GoodP (r % 1114112)
      · have f1 := put_ne_of _ hx
        have f2 := isEmpty_not f1
        have f5 := put_nil_of (-1 - r % 1114112) (by unfold GoodP; omega)
        have f6 := isEmpty_of f5
        have f7 : validB (put (r % 1114112)).toList = true := by
          rw [put_toList, validB_iff]; exact ⟨[r % 1114112], by simpa using (good_iff _).2 hx, by simp⟩
        have f8 : (put (r % 1114112)).size ≤ 4 := by rw [put_size]; exact putB_len _
        have f9 : ∀ w, Calls Try.prog 11 #[.string (a ++ put (r % 1114112) ++ b), .int .i64 a.size] w (GetEnd (r % 1114112, (a.size : Int) + (put (r % 1114112)).size) w) := fun w => by
          rw [← getI_mid a b _ hx]
          exact get_int _ _ w (by simp only [ByteArray.size_append]; omega)
        have F9 := Lib.hid f9
        clear f9
        have hx' : r % 1114112 < 55296 ∨ 57343 < r % 1114112 := hx.2.2
        clear hx
        rcases hx' with hx | hx
        all_goals
          go_enter Try.func4, Try.ntmps4
          go_wp2_with (first
            | (go_at_call 10; refine (awake2_any _).mono ?_; rintro e w1 ⟨rfl, hw1⟩; replace hW := nextB hW hw1; clear hw1)
            | (go_at_call 11; refine (F9.out _).mono ?_; rintro e w1 ⟨rfl, hw1⟩; replace hW := nextB hW hw1; clear hw1)
            | (go_at_call 9; refine (put_any _ _).mono ?_; rintro e w1 ⟨rfl, hw1⟩; replace hW := nextB hW hw1; clear hw1)
            | (go_at_call 12; refine (valid_any _ _ (by omega)).mono ?_; rintro e w1 ⟨rfl, hw1⟩; replace hW := nextB hW hw1; clear hw1))
          go_ret
          exact ⟨rfl, hW⟩
      · have f1 := put_nil_of _ hx
        have f2 := isEmpty_of f1
        have f3 := put_nil_of (1114112 + r % 1114112) (by unfold GoodP; omega)
        have f4 := isEmpty_of f3
        have g1 : 55296 ≤ r % 1114112 := by unfold GoodP at hx; omega
        have g2 : r % 1114112 ≤ 57343 := by unfold GoodP at hx; omega
        clear hx
        go_enter Try.func4, Try.ntmps4
        go_wp2_with (first
          | (go_at_call 10; refine (awake2_any _).mono ?_; rintro e w1 ⟨rfl, hw1⟩; replace hW := nextB hW hw1; clear hw1)
          | (go_at_call 9; refine (put_any _ _).mono ?_; rintro e w1 ⟨rfl, hw1⟩; replace hW := nextB hW hw1; clear hw1))
        go_ret
        exact ⟨rfl, hW⟩
    · go_enter Try.func4, Try.ntmps4
      go_wp2_with (go_at_call 10; refine (awake2_any _).mono ?_; rintro e w1 ⟨rfl, hw1⟩; replace hW := nextB hW hw1; clear hw1)
      go_ret
      exact ⟨rfl, hW⟩
  · go_enter Try.func4, Try.ntmps4
    go_wp2_with (go_at_call 10; refine (awake2_any _).mono ?_; rintro e w1 ⟨rfl, hw1⟩; replace hW := nextB hW hw1; clear hw1)
    go_ret
    exact ⟨rfl, hW⟩
end Go.Proofs.Ytiaikpbnjhhiaaa
