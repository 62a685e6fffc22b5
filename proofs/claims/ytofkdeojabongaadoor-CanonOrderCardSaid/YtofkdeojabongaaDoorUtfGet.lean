/- The walks of package utf8, Get. -/
import Derived.Test.YtofkdeojabongaaDoorUtf
namespace Go.Proofs.YtofkdeojabongaaDoor
open Go.RowKit Go.PlainAid
set_option linter.unusedVariables false
set_option linter.unusedSimpArgs false
theorem acc_succ (s : ByteArray) (k : Nat) (r : Int) (i : Nat) (h : 1 ≤ i) : acc s k r (i + 1 - 1) = acc s k r (i - 1) * 64 + bt s (k + i) % 64 := by
  obtain ⟨j, rfl⟩ : ∃ j, i = j + 1 := ⟨i - 1, by omega⟩
  rfl
theorem acc_or (a b : Int) (h0 : 0 ≤ a) (h1 : a < 67108864) (h2 : 0 ≤ b) : bits BinOp.or IntKind.i64 (a * 64) (b % 64) = a * 64 + b % 64 := i64_join 6 _ _ (by omega) (by omega) (by omega) (by omega) (by omega) (by omega)
theorem below_drew1 {w w1 : World} (h : Below w.drew.heap.size w.drew w1) : Below w.heap.size w w1 := ((Below.refl _ _).drew).trans h
/-- What Get's walk ends in. -/
def GetEnd (v : Int × Int) (w : World) (e : Ending) (w' : World) : Prop := e = .returned (.tuple #[.int .i64 v.1, .int .i64 v.2]) ∧ Below w.heap.size w w'
theorem get_out (s : ByteArray) (k : Int) (w : World) (hs : s.size ≤ 9223372036854775807) (h : k < 0 ∨ s.size ≤ k) : Calls Tryd.prog 61 #[.string s, .int .i64 k] w (GetEnd (-1, k) w) := by
  rcases h with h | h
  all_goals
    go_enter Tryd.func61, Tryd.ntmps61
    go_wp2
    go_ret2
    exact ⟨rfl, Below.refl _ _⟩
def SizeAt (c n r : Int) : Prop := ∀ w, Calls Tryd.prog 68 #[.int .u8 c] w fun e w' => e = .returned (.tuple #[.int .i64 n, .int .i64 r]) ∧ w = w'
theorem get_none (s : ByteArray) (k : Nat) (n : Nat) (r : Int) (w : World) (hs : s.size ≤ 9223372036854775807) (h : k < s.size) (hsz : SizeAt (bt s k) n r) (hn : n ≤ 4) (hc : n = 0 ∨ s.size < k + n) :
    Calls Tryd.prog 61 #[.string s, .int .i64 k] w (GetEnd (-1, k) w) := by
  have hb := get_bt s
  rcases hc with hc | hc
  · subst hc
    go_enter Tryd.func61, Tryd.ntmps61
    go_wp2_with (go_at_call 68; refine (hsz _).mono ?_; rintro e w' ⟨rfl, rfl⟩)
    go_ret2
    exact ⟨rfl, Below.refl _ _⟩
  · go_enter Tryd.func61, Tryd.ntmps61
    go_wp2_with (go_at_call 68; refine (hsz _).mono ?_; rintro e w' ⟨rfl, rfl⟩)
    all_goals
      go_ret2
      exact ⟨rfl, Below.refl _ _⟩
theorem get_some (s : ByteArray) (k : Nat) (n : Nat) (r : Int) (w : World) (hs : s.size ≤ 9223372036854775807) (h : k < s.size) (hsz : SizeAt (bt s k) n r) (hn : n ≤ 4) (hn0 : 1 ≤ n) (hc : k + n ≤ s.size) (r0 : 0 ≤ r) (r1 : r < 256)
    (v : Int × Int) (ht : ((put (acc s k r (n - 1))).toList == (s.extract k (k + n)).toList) = true → v = (acc s k r (n - 1), (k : Int) + n)) (hf : ((put (acc s k r (n - 1))).toList == (s.extract k (k + n)).toList) = false → v = (-1, (k : Int))) :
    Calls Tryd.prog 61 #[.string s, .int .i64 k] w (GetEnd v w) := by
  have hb := get_bt s
  have HT := Lib.hid ht
  have HF := Lib.hid hf
  clear ht hf
  have hn1 : ((n : Int) == 0) = false := by rw [beq_eq_false_iff_ne]; omega
  go_enter Tryd.func61, Tryd.ntmps61
  go_wp2_with (go_at_call 68; refine (hsz _).mono ?_; rintro e w' ⟨rfl, rfl⟩)
  go_loop [4, 7] (fun q i => ∃ j : Nat, 1 ≤ j ∧ j ≤ n ∧ i = .int .i64 j ∧ q = .int .i64 (acc s k r (j - 1))) (fun _ i => n - (intOf i).toNat)
  case atStart => exact ⟨1, by omega, by omega, rfl, rfl⟩
  case round =>
    obtain ⟨j, j0, j1, rfl, rfl⟩ := hrel
    obtain ⟨a0, a1⟩ := acc_bound s k r r0 r1 (j - 1) (by omega)
    have b0 := bt_nonneg s (k + j)
    have b1 := bt_le s (k + j)
    have e1 := acc_or (acc s k r (j - 1)) (bt s (k + j)) a0 a1 b0
    have e2 := u8_and63 (bt s (k + j)) b0 (by omega)
    by_cases hlt : j < n
    · have E := Lib.hid (acc_succ s k r j j0)
      go_wp2
      go_round
      case rel => exact ⟨j + 1, by omega, by omega, by go_num, by rw [E.out]⟩
      case measure => simp [intOf]; omega
    · obtain rfl : n = j := by omega
      go_wp2
      have g1 : (k : Int) + n ≤ s.size := by omega
      have g2 : 0 ≤ (k : Int) + n := by omega
      have g3 : (k : Int) ≤ (k : Int) + n := by omega
      have g4 : ((k : Int) + n).toNat = k + n := by omega
      have g0 : IntKind.i64.wrap ((k : Int) + n) = (k : Int) + n := IntWalk.i64_in _ (by omega)
      go_region_with (go_at_call 69; refine (put_any _ _).mono ?_; rintro e w1 ⟨rfl, hw1⟩)
      go_wp2
      all_goals
        rename_i hx
        go_ret2
        refine ⟨?_, below_drew1 hw1⟩
        first
          | (rw [HT.out (by simpa using hx)]; rfl)
          | (rw [HF.out (by simpa using hx)]; rfl)
theorem get_any (s : ByteArray) (k : Nat) (w : World) (hs : s.size ≤ 9223372036854775807) (h : k < s.size) : Calls Tryd.prog 61 #[.string s, .int .i64 k] w (GetEnd (getL s.toList k) w) := by
  have b0 := bt_nonneg s k
  have b1 := bt_le s k
  obtain ⟨n0, n1, r0, r1⟩ := sizeN_le (bt s k) b0 (by omega)
  obtain ⟨n, hn⟩ : ∃ n : Nat, (sizeN (bt s k)).1 = n := ⟨(sizeN (bt s k)).1.toNat, by omega⟩
  have hsz : SizeAt (bt s k) n (sizeN (bt s k)).2 := fun w => by rw [← hn]; exact size_any _ _ b0 (by omega)
  have e : sizeN (bt s k) = ((n : Int), (sizeN (bt s k)).2) := by rw [← hn]
  unfold getL decL
  by_cases hc : n = 0 ∨ s.size < k + n
  · rw [getW_none sizeN s k n _ h e hc]
    exact get_none s k n _ w hs h hsz (by omega) hc
  · rw [getW sizeN s k n _ h e (by omega) (by omega)]
    refine get_some s k n _ w hs h hsz (by omega) (by omega) (by omega) r0 r1 _ (fun ht => ?_) (fun hf => ?_)
    · rw [if_pos ht]
    · rw [hf]; rfl
theorem rget_out (s : ByteArray) (k : Int) (w : World) (hs : s.size ≤ 9223372036854775807) (h : k < 0 ∨ s.size ≤ k) : Calls Tryd.prog 63 #[.string s, .int .i64 k] w (GetEnd (-1, k) w) := by
  rcases h with h | h
  all_goals
    go_enter Tryd.func63, Tryd.ntmps63
    go_wp2
    go_ret2
    exact ⟨rfl, Below.refl _ _⟩
def RCase (c : Int) (n : Nat) (m r : Int) : Prop := (n = 1 ∧ m = 1 ∧ r = c ∧ c < 192) ∨ (n = 2 ∧ m = 2 ∧ r = c % 32 ∧ 192 ≤ c ∧ c < 224) ∨ (n = 3 ∧ m = 3 ∧ r = c % 16 ∧ 224 ≤ c ∧ c < 240) ∨ (n = 4 ∧ m = 4 ∧ r = c % 8 ∧ 240 ≤ c)
theorem rget_none (s : ByteArray) (k : Nat) (n : Nat) (m r : Int) (w : World) (hs : s.size ≤ 9223372036854775807) (h : k < s.size) (hcase : RCase (bt s k) n m r) (hm : (n : Int) = m) (hc : (s.size : Int) < k + m) :
    Calls Tryd.prog 63 #[.string s, .int .i64 k] w (GetEnd (-1, k) w) := by
  have hb := get_bt s
  have b0 := bt_nonneg s k
  have b1 := bt_le s k
  clear hm
  rcases hcase with ⟨rfl, rfl, rfl, h1⟩ | ⟨rfl, rfl, rfl, h1, h2⟩ | ⟨rfl, rfl, rfl, h1, h2⟩ | ⟨rfl, rfl, rfl, h1⟩
  all_goals
    go_enter Tryd.func63, Tryd.ntmps63
    go_wp2
    all_goals
      go_ret2
      exact ⟨rfl, Below.refl _ _⟩
theorem rget_some1 (s : ByteArray) (k : Nat) (w : World) (hs : s.size ≤ 9223372036854775807) (h : k < s.size) (h1 : bt s k < 192) (hc : k + 1 ≤ s.size) (r0 : 0 ≤ bt s k) (r1 : bt s k < 256)
    (v : Int × Int) (ht : ((put (acc s k (bt s k) (1 - 1))).toList == (s.extract k (k + 1)).toList) = true → v = (acc s k (bt s k) (1 - 1), (k : Int) + 1)) (hf : ((put (acc s k (bt s k) (1 - 1))).toList == (s.extract k (k + 1)).toList) = false → v = (-1, (k : Int))) :
    Calls Tryd.prog 63 #[.string s, .int .i64 k] w (GetEnd v w) := by
  have hb := get_bt s
  have HT := Lib.hid ht
  have HF := Lib.hid hf
  clear ht hf
  have b0 := bt_nonneg s k
  have b1 := bt_le s k
  have k1 : (k : Int) + 1 ≤ s.size := by omega
  have k4 : ((k : Int) + 1).toNat = k + 1 := by omega
  have k0 : IntKind.i64.wrap ((k : Int) + 1) = (k : Int) + 1 := IntWalk.i64_in _ (by omega)
  have K4 := Lib.hid k4
  have K0 := Lib.hid k0
  clear k4 k0
  go_enter Tryd.func63, Tryd.ntmps63
  go_wp2
  go_loop [8, 9] (fun q i => ∃ j : Nat, 1 ≤ j ∧ j ≤ 1 ∧ i = .int .i64 j ∧ q = .int .i64 (acc s k (bt s k) (j - 1))) (fun _ i => 1 - (intOf i).toNat)
  case atStart => exact ⟨1, by omega, by omega, rfl, rfl⟩
  case round =>
    obtain ⟨j, j0, j1, rfl, rfl⟩ := hrel
    obtain ⟨a0, a1⟩ := acc_bound s k (bt s k) r0 r1 (j - 1) (by omega)
    have b2 := bt_nonneg s (k + j)
    have b3 := bt_le s (k + j)
    have e1 := acc_or (acc s k (bt s k) (j - 1)) (bt s (k + j)) a0 a1 b2
    have e2 := i64_and63 (bt s (k + j)) b2 (by omega)
    by_cases hlt : j < 1
    · exact absurd j0 (by omega)
    · obtain rfl : j = 1 := by omega
      go_wp2
      have g2 : 0 ≤ (k : Int) + 1 := by omega
      have g3 : (k : Int) ≤ (k : Int) + 1 := by omega
      have g4 := K4.out
      have g0 := K0.out
      go_region_with (go_at_call 70; refine (rput_any _ _).mono ?_; rintro e w1 ⟨rfl, hw1⟩)
      go_wp2
      all_goals
        rename_i hx
        go_ret2
        refine ⟨?_, below_drew1 hw1⟩
        first
          | (rw [HT.out (by simpa using hx)]; rfl)
          | (rw [HF.out (by simpa using hx)]; rfl)
theorem rget_some2 (s : ByteArray) (k : Nat) (w : World) (hs : s.size ≤ 9223372036854775807) (h : k < s.size) (h1 : 192 ≤ bt s k ∧ bt s k < 224) (hc : k + 2 ≤ s.size) (r0 : 0 ≤ bt s k % 32) (r1 : bt s k % 32 < 256)
    (v : Int × Int) (ht : ((put (acc s k (bt s k % 32) (2 - 1))).toList == (s.extract k (k + 2)).toList) = true → v = (acc s k (bt s k % 32) (2 - 1), (k : Int) + 2)) (hf : ((put (acc s k (bt s k % 32) (2 - 1))).toList == (s.extract k (k + 2)).toList) = false → v = (-1, (k : Int))) :
    Calls Tryd.prog 63 #[.string s, .int .i64 k] w (GetEnd v w) := by
  have hb := get_bt s
  have HT := Lib.hid ht
  have HF := Lib.hid hf
  clear ht hf
  have b0 := bt_nonneg s k
  have b1 := bt_le s k
  obtain ⟨h1, h2⟩ := h1
  have e7 : bits BinOp.and IntKind.i64 (bt s k) 31 = bt s k % 32 := i64_mask 5 (by decide) _ b0 (by omega)
  have k1 : (k : Int) + 2 ≤ s.size := by omega
  have k4 : ((k : Int) + 2).toNat = k + 2 := by omega
  have k0 : IntKind.i64.wrap ((k : Int) + 2) = (k : Int) + 2 := IntWalk.i64_in _ (by omega)
  have K4 := Lib.hid k4
  have K0 := Lib.hid k0
  clear k4 k0
  go_enter Tryd.func63, Tryd.ntmps63
  go_wp2
  go_loop [8, 9] (fun q i => ∃ j : Nat, 1 ≤ j ∧ j ≤ 2 ∧ i = .int .i64 j ∧ q = .int .i64 (acc s k (bt s k % 32) (j - 1))) (fun _ i => 2 - (intOf i).toNat)
  case atStart => exact ⟨1, by omega, by omega, rfl, rfl⟩
  case round =>
    obtain ⟨j, j0, j1, rfl, rfl⟩ := hrel
    obtain ⟨a0, a1⟩ := acc_bound s k (bt s k % 32) r0 r1 (j - 1) (by omega)
    have b2 := bt_nonneg s (k + j)
    have b3 := bt_le s (k + j)
    have e1 := acc_or (acc s k (bt s k % 32) (j - 1)) (bt s (k + j)) a0 a1 b2
    have e2 := i64_and63 (bt s (k + j)) b2 (by omega)
    by_cases hlt : j < 2
    · have E := Lib.hid (acc_succ s k (bt s k % 32) j j0)
      go_wp2
      go_round
      case rel => exact ⟨j + 1, by omega, by omega, by go_num, by rw [E.out]⟩
      case measure => simp [intOf]; omega
    · obtain rfl : j = 2 := by omega
      go_wp2
      have g2 : 0 ≤ (k : Int) + 2 := by omega
      have g3 : (k : Int) ≤ (k : Int) + 2 := by omega
      have g4 := K4.out
      have g0 := K0.out
      go_region_with (go_at_call 70; refine (rput_any _ _).mono ?_; rintro e w1 ⟨rfl, hw1⟩)
      go_wp2
      all_goals
        rename_i hx
        go_ret2
        refine ⟨?_, below_drew1 hw1⟩
        first
          | (rw [HT.out (by simpa using hx)]; rfl)
          | (rw [HF.out (by simpa using hx)]; rfl)
theorem rget_some3 (s : ByteArray) (k : Nat) (w : World) (hs : s.size ≤ 9223372036854775807) (h : k < s.size) (h1 : 224 ≤ bt s k ∧ bt s k < 240) (hc : k + 3 ≤ s.size) (r0 : 0 ≤ bt s k % 16) (r1 : bt s k % 16 < 256)
    (v : Int × Int) (ht : ((put (acc s k (bt s k % 16) (3 - 1))).toList == (s.extract k (k + 3)).toList) = true → v = (acc s k (bt s k % 16) (3 - 1), (k : Int) + 3)) (hf : ((put (acc s k (bt s k % 16) (3 - 1))).toList == (s.extract k (k + 3)).toList) = false → v = (-1, (k : Int))) :
    Calls Tryd.prog 63 #[.string s, .int .i64 k] w (GetEnd v w) := by
  have hb := get_bt s
  have HT := Lib.hid ht
  have HF := Lib.hid hf
  clear ht hf
  have b0 := bt_nonneg s k
  have b1 := bt_le s k
  obtain ⟨h1, h2⟩ := h1
  have e7 : bits BinOp.and IntKind.i64 (bt s k) 15 = bt s k % 16 := i64_mask 4 (by decide) _ b0 (by omega)
  have k1 : (k : Int) + 3 ≤ s.size := by omega
  have k4 : ((k : Int) + 3).toNat = k + 3 := by omega
  have k0 : IntKind.i64.wrap ((k : Int) + 3) = (k : Int) + 3 := IntWalk.i64_in _ (by omega)
  have K4 := Lib.hid k4
  have K0 := Lib.hid k0
  clear k4 k0
  go_enter Tryd.func63, Tryd.ntmps63
  go_wp2
  go_loop [8, 9] (fun q i => ∃ j : Nat, 1 ≤ j ∧ j ≤ 3 ∧ i = .int .i64 j ∧ q = .int .i64 (acc s k (bt s k % 16) (j - 1))) (fun _ i => 3 - (intOf i).toNat)
  case atStart => exact ⟨1, by omega, by omega, rfl, rfl⟩
  case round =>
    obtain ⟨j, j0, j1, rfl, rfl⟩ := hrel
    obtain ⟨a0, a1⟩ := acc_bound s k (bt s k % 16) r0 r1 (j - 1) (by omega)
    have b2 := bt_nonneg s (k + j)
    have b3 := bt_le s (k + j)
    have e1 := acc_or (acc s k (bt s k % 16) (j - 1)) (bt s (k + j)) a0 a1 b2
    have e2 := i64_and63 (bt s (k + j)) b2 (by omega)
    by_cases hlt : j < 3
    · have E := Lib.hid (acc_succ s k (bt s k % 16) j j0)
      go_wp2
      go_round
      case rel => exact ⟨j + 1, by omega, by omega, by go_num, by rw [E.out]⟩
      case measure => simp [intOf]; omega
    · obtain rfl : j = 3 := by omega
      go_wp2
      have g2 : 0 ≤ (k : Int) + 3 := by omega
      have g3 : (k : Int) ≤ (k : Int) + 3 := by omega
      have g4 := K4.out
      have g0 := K0.out
      go_region_with (go_at_call 70; refine (rput_any _ _).mono ?_; rintro e w1 ⟨rfl, hw1⟩)
      go_wp2
      all_goals
        rename_i hx
        go_ret2
        refine ⟨?_, below_drew1 hw1⟩
        first
          | (rw [HT.out (by simpa using hx)]; rfl)
          | (rw [HF.out (by simpa using hx)]; rfl)
theorem rget_some4 (s : ByteArray) (k : Nat) (w : World) (hs : s.size ≤ 9223372036854775807) (h : k < s.size) (h1 : 240 ≤ bt s k) (hc : k + 4 ≤ s.size) (r0 : 0 ≤ bt s k % 8) (r1 : bt s k % 8 < 256)
    (v : Int × Int) (ht : ((put (acc s k (bt s k % 8) (4 - 1))).toList == (s.extract k (k + 4)).toList) = true → v = (acc s k (bt s k % 8) (4 - 1), (k : Int) + 4)) (hf : ((put (acc s k (bt s k % 8) (4 - 1))).toList == (s.extract k (k + 4)).toList) = false → v = (-1, (k : Int))) :
    Calls Tryd.prog 63 #[.string s, .int .i64 k] w (GetEnd v w) := by
  have hb := get_bt s
  have HT := Lib.hid ht
  have HF := Lib.hid hf
  clear ht hf
  have b0 := bt_nonneg s k
  have b1 := bt_le s k
  have e7 : bits BinOp.and IntKind.i64 (bt s k) 7 = bt s k % 8 := i64_mask 3 (by decide) _ b0 (by omega)
  have k1 : (k : Int) + 4 ≤ s.size := by omega
  have k4 : ((k : Int) + 4).toNat = k + 4 := by omega
  have k0 : IntKind.i64.wrap ((k : Int) + 4) = (k : Int) + 4 := IntWalk.i64_in _ (by omega)
  have K4 := Lib.hid k4
  have K0 := Lib.hid k0
  clear k4 k0
  go_enter Tryd.func63, Tryd.ntmps63
  go_wp2
  go_loop [8, 9] (fun q i => ∃ j : Nat, 1 ≤ j ∧ j ≤ 4 ∧ i = .int .i64 j ∧ q = .int .i64 (acc s k (bt s k % 8) (j - 1))) (fun _ i => 4 - (intOf i).toNat)
  case atStart => exact ⟨1, by omega, by omega, rfl, rfl⟩
  case round =>
    obtain ⟨j, j0, j1, rfl, rfl⟩ := hrel
    obtain ⟨a0, a1⟩ := acc_bound s k (bt s k % 8) r0 r1 (j - 1) (by omega)
    have b2 := bt_nonneg s (k + j)
    have b3 := bt_le s (k + j)
    have e1 := acc_or (acc s k (bt s k % 8) (j - 1)) (bt s (k + j)) a0 a1 b2
    have e2 := i64_and63 (bt s (k + j)) b2 (by omega)
    by_cases hlt : j < 4
    · have E := Lib.hid (acc_succ s k (bt s k % 8) j j0)
      go_wp2
      go_round
      case rel => exact ⟨j + 1, by omega, by omega, by go_num, by rw [E.out]⟩
      case measure => simp [intOf]; omega
    · obtain rfl : j = 4 := by omega
      go_wp2
      have g2 : 0 ≤ (k : Int) + 4 := by omega
      have g3 : (k : Int) ≤ (k : Int) + 4 := by omega
      have g4 := K4.out
      have g0 := K0.out
      go_region_with (go_at_call 70; refine (rput_any _ _).mono ?_; rintro e w1 ⟨rfl, hw1⟩)
      go_wp2
      all_goals
        rename_i hx
        go_ret2
        refine ⟨?_, below_drew1 hw1⟩
        first
          | (rw [HT.out (by simpa using hx)]; rfl)
          | (rw [HF.out (by simpa using hx)]; rfl)
theorem rget_some (s : ByteArray) (k : Nat) (n : Nat) (m r : Int) (w : World) (hs : s.size ≤ 9223372036854775807) (h : k < s.size) (hcase : RCase (bt s k) n m r) (hc : k + n ≤ s.size) (r0 : 0 ≤ r) (r1 : r < 256)
    (v : Int × Int) (ht : ((put (acc s k r (n - 1))).toList == (s.extract k (k + n)).toList) = true → v = (acc s k r (n - 1), (k : Int) + m)) (hf : ((put (acc s k r (n - 1))).toList == (s.extract k (k + n)).toList) = false → v = (-1, (k : Int))) :
    Calls Tryd.prog 63 #[.string s, .int .i64 k] w (GetEnd v w) := by
  rcases hcase with ⟨rfl, rfl, rfl, h1⟩ | ⟨rfl, rfl, rfl, h1⟩ | ⟨rfl, rfl, rfl, h1⟩ | ⟨rfl, rfl, rfl, h1⟩
  · exact rget_some1 s k w hs h h1 hc r0 r1 v ht hf
  · exact rget_some2 s k w hs h h1 hc r0 r1 v ht hf
  · exact rget_some3 s k w hs h h1 hc r0 r1 v ht hf
  · exact rget_some4 s k w hs h h1 hc r0 r1 v ht hf
theorem rget_any (s : ByteArray) (k : Nat) (w : World) (hs : s.size ≤ 9223372036854775807) (h : k < s.size) : Calls Tryd.prog 63 #[.string s, .int .i64 k] w (GetEnd (getL s.toList k) w) := by
  have b0 := bt_nonneg s k
  have b1 := bt_le s k
  obtain ⟨n0, n1, r0, r1⟩ := rsizeN_le (bt s k) b0 (by omega)
  obtain ⟨n, hn⟩ : ∃ n : Nat, (rsizeN (bt s k)).1 = n := ⟨(rsizeN (bt s k)).1.toNat, by omega⟩
  have e : rsizeN (bt s k) = ((n : Int), (rsizeN (bt s k)).2) := by rw [← hn]
  have hcase : RCase (bt s k) n n (rsizeN (bt s k)).2 := by
    unfold RCase
    rw [← hn]
    have : n = (rsizeN (bt s k)).1.toNat := by omega
    rw [this]
    unfold rsizeN
    repeat' split
    all_goals (simp; try omega)
  unfold getL
  rw [← rdec_eq]
  by_cases hc : s.size < k + n
  · rw [getW_none rsizeN s k n _ h e (Or.inr hc)]
    exact rget_none s k n n _ w hs h hcase rfl (by omega)
  · rw [getW rsizeN s k n _ h e (by omega) (by omega)]
    refine rget_some s k n n _ w hs h hcase (by omega) r0 r1 _ (fun ht => ?_) (fun hf => ?_)
    · rw [if_pos ht]
    · rw [hf]; rfl
end Go.Proofs.YtofkdeojabongaaDoor
