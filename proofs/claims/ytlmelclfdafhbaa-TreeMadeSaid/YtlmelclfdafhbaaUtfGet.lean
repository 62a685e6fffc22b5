/- The walks of package utf8, Get. -/
import Derived.Test.YtlmelclfdafhbaaUtf
namespace Go.Proofs.Ytlmelclfdafhbaa
open Go.RowKit Go.PlainAid
set_option linter.unusedVariables false
set_option linter.unusedSimpArgs false
theorem acc_succ (s : ByteArray) (k : Nat) (r : Int) (i : Nat) (h : 1 ≤ i) : acc s k r (i + 1 - 1) = acc s k r (i - 1) * 64 + bt s (k + i) % 64 := by
  obtain ⟨j, rfl⟩ : ∃ j, i = j + 1 := ⟨i - 1, by omega⟩
  rfl
theorem acc_or (a b : Int) (h0 : 0 ≤ a) (h1 : a < 67108864) (h2 : 0 ≤ b) : bits BinOp.or IntKind.i64 (a * 64) (b % 64) = a * 64 + b % 64 := i64_join 6 _ _ (by omega) (by omega) (by omega) (by omega) (by omega) (by omega)
theorem below_drew1 {w w1 : World} (h : Below w.drew.heap.size w.drew w1) : Below w.heap.size w w1 := ((Below.refl _ _).drew).trans h
/-- What Get's walk ends in. -/
def GetEnd (v : Int × Int) (w : World) (e : Ending) (w' : World) : Prop := e = .returned (.tuple #[.int .i64 v.1, .int .i64 v.2]) ∧ Below w.heap.size w w'
theorem get_out (s : ByteArray) (k : Int) (w : World) (hs : s.size ≤ 9223372036854775807) (h : k < 0 ∨ s.size ≤ k) : Calls Try.prog 25 #[.string s, .int .i64 k] w (GetEnd (-1, k) w) := by
  rcases h with h | h
  all_goals
    go_enter Try.func25, Try.ntmps25
    go_wp2
    go_ret2
    exact ⟨rfl, Below.refl _ _⟩
def SizeAt (c n r : Int) : Prop := ∀ w, Calls Try.prog 28 #[.int .u8 c] w fun e w' => e = .returned (.tuple #[.int .i64 n, .int .i64 r]) ∧ w = w'
theorem get_none (s : ByteArray) (k : Nat) (n : Nat) (r : Int) (w : World) (hs : s.size ≤ 9223372036854775807) (h : k < s.size) (hsz : SizeAt (bt s k) n r) (hn : n ≤ 4) (hc : n = 0 ∨ s.size < k + n) :
    Calls Try.prog 25 #[.string s, .int .i64 k] w (GetEnd (-1, k) w) := by
  have hb := get_bt s
  rcases hc with hc | hc
  · subst hc
    go_enter Try.func25, Try.ntmps25
    go_wp2_with (go_at_call 28; refine (hsz _).mono ?_; rintro e w' ⟨rfl, rfl⟩)
    go_ret2
    exact ⟨rfl, Below.refl _ _⟩
  · go_enter Try.func25, Try.ntmps25
    go_wp2_with (go_at_call 28; refine (hsz _).mono ?_; rintro e w' ⟨rfl, rfl⟩)
    all_goals
      go_ret2
      exact ⟨rfl, Below.refl _ _⟩
theorem get_some (s : ByteArray) (k : Nat) (n : Nat) (r : Int) (w : World) (hs : s.size ≤ 9223372036854775807) (h : k < s.size) (hsz : SizeAt (bt s k) n r) (hn : n ≤ 4) (hn0 : 1 ≤ n) (hc : k + n ≤ s.size) (r0 : 0 ≤ r) (r1 : r < 256)
    (v : Int × Int) (ht : ((put (acc s k r (n - 1))).toList == (s.extract k (k + n)).toList) = true → v = (acc s k r (n - 1), (k : Int) + n)) (hf : ((put (acc s k r (n - 1))).toList == (s.extract k (k + n)).toList) = false → v = (-1, (k : Int))) :
    Calls Try.prog 25 #[.string s, .int .i64 k] w (GetEnd v w) := by
  have hb := get_bt s
  have HT := Lib.hid ht
  have HF := Lib.hid hf
  clear ht hf
  have hn1 : ((n : Int) == 0) = false := by rw [beq_eq_false_iff_ne]; omega
  go_enter Try.func25, Try.ntmps25
  go_wp2_with (go_at_call 28; refine (hsz _).mono ?_; rintro e w' ⟨rfl, rfl⟩)
  go_loop [4, 7] (fun q i => ∃ j : Nat, 1 ≤ j ∧ j ≤ n ∧ i = .int .i64 j ∧ q = .int .i64 (acc s k r (j - 1))) (fun _ i => n - (intOf i).toNat)
  case atStart => exact ⟨1, by omega, by omega, rfl, rfl⟩
  case round =>
    obtain ⟨j, j0, j1, rfl, rfl⟩ := hrel
    obtain ⟨a0, a1⟩ := acc_bound s k r r0 r1 (j - 1) (by omega)
    have b0 := bt_nonneg s (k + j)
    have b1 := bt_le s (k + j)
    have e1 := acc_or (acc s k r (j - 1)) (bt s (k + j)) a0 a1 b0
    have e2 := u8_and63 (bt s (k + j)) b0 (by omega)
    by_cases hlt : j < n
    · have E := Lib.hid (acc_succ s k r j j0)
      go_wp2
      go_round
      case rel => exact ⟨j + 1, by omega, by omega, by go_num, by rw [E.out]⟩
      case measure => simp [intOf]; omega
    · obtain rfl : n = j := by omega
      go_wp2
      have g1 : (k : Int) + n ≤ s.size := by omega
      have g2 : 0 ≤ (k : Int) + n := by omega
      have g3 : (k : Int) ≤ (k : Int) + n := by omega
      have g4 : ((k : Int) + n).toNat = k + n := by omega
      have g0 : IntKind.i64.wrap ((k : Int) + n) = (k : Int) + n := IntWalk.i64_in _ (by omega)
      go_region_with (go_at_call 29; refine (put_any _ _).mono ?_; rintro e w1 ⟨rfl, hw1⟩)
      go_wp2
      all_goals
        rename_i hx
        go_ret2
        refine ⟨?_, below_drew1 hw1⟩
        first
          | (rw [HT.out (by simpa using hx)]; rfl)
          | (rw [HF.out (by simpa using hx)]; rfl)
theorem get_any (s : ByteArray) (k : Nat) (w : World) (hs : s.size ≤ 9223372036854775807) (h : k < s.size) : Calls Try.prog 25 #[.string s, .int .i64 k] w (GetEnd (getL s.toList k) w) := by
  have b0 := bt_nonneg s k
  have b1 := bt_le s k
  obtain ⟨n0, n1, r0, r1⟩ := sizeN_le (bt s k) b0 (by omega)
  obtain ⟨n, hn⟩ : ∃ n : Nat, (sizeN (bt s k)).1 = n := ⟨(sizeN (bt s k)).1.toNat, by omega⟩
  have hsz : SizeAt (bt s k) n (sizeN (bt s k)).2 := fun w => by rw [← hn]; exact size_any _ _ b0 (by omega)
  have e : sizeN (bt s k) = ((n : Int), (sizeN (bt s k)).2) := by rw [← hn]
  unfold getL decL
  by_cases hc : n = 0 ∨ s.size < k + n
  · rw [getW_none sizeN s k n _ h e hc]
    exact get_none s k n _ w hs h hsz (by omega) hc
  · rw [getW sizeN s k n _ h e (by omega) (by omega)]
    refine get_some s k n _ w hs h hsz (by omega) (by omega) (by omega) r0 r1 _ (fun ht => ?_) (fun hf => ?_)
    · rw [if_pos ht]
    · rw [hf]; rfl
end Go.Proofs.Ytlmelclfdafhbaa
