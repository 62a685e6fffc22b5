/- The walks of package text: Number, Atom, plain, both. -/
import Derived.Test.YtejodjgeamaejaaDoorText2
namespace Go.Proofs.YtejodjgeamaejaaDoor
open Go.RowKit Go.PlainAid
set_option linter.unusedVariables false
set_option linter.unusedSimpArgs false
def NumEnd (v : Int × Bool) (w : World) (e : Ending) (w' : World) : Prop := e = .returned (.tuple #[.int .i64 v.1, .bool v.2]) ∧ w = w'
theorem size_empty {s : ByteArray} (h : s.size = 0) : s.toList = [] := by
  rw [ByteArray.toList_eq]
  exact List.eq_nil_of_length_eq_zero (by simpa using h)
theorem size_full {s : ByteArray} (h : 0 < s.size) : ¬ s.toList = [] := by
  intro e
  rw [ByteArray.toList_eq] at e
  have h1 : s.data.toList.length = 0 := by rw [e]; rfl
  have h2 : s.data.toList.length = s.size := by simp
  omega
theorem digits_stop (s : ByteArray) (k n : Nat) (h : k < n) (hk : (decide (48 ≤ bt s k) && decide (bt s k ≤ 57)) = false) : digitsB s n = false := by
  induction n with
  | zero => omega
  | succ n ih =>
    simp only [digitsB]
    by_cases e : k = n
    · subst e; rw [hk, Bool.and_false]
    · rw [ih (by omega), Bool.false_and]
theorem number_short (s : ByteArray) (w : World) (hs : s.size ≤ 9223372036854775807) (h : s.size = 0 ∨ 10 < s.size ∨ (bt s 0 = 48 ∧ 1 < s.size)) : Calls Tryd.prog 11 #[.string s] w (NumEnd (0, false) w) := by
  have hb := get_bt s
  have hcase : s.size = 0 ∨ 10 < s.size ∨ (s.size ≤ 10 ∧ bt s 0 = 48 ∧ 1 < s.size) := by omega
  clear h
  rcases hcase with h | h | ⟨h, h48, h1⟩
  · have f1 := size_empty h
    go_enter Tryd.func11, Tryd.ntmps11
    go_wp2
    go_ret2
    exact ⟨rfl, rfl⟩
  · have f1 := size_full (s := s) (by omega)
    have f2 : s.toList.isEmpty = false := by cases hh : s.toList with | nil => exact absurd hh f1 | cons _ _ => rfl
    go_enter Tryd.func11, Tryd.ntmps11
    go_wp2
    go_ret2
    exact ⟨rfl, rfl⟩
  · have f1 := size_full (s := s) (by omega)
    have f2 : s.toList.isEmpty = false := by cases hh : s.toList with | nil => exact absurd hh f1 | cons _ _ => rfl
    have f3 : (bt s 0 == 48) = true := by rw [h48]; rfl
    have f4 : 0 < s.size := by omega
    go_enter Tryd.func11, Tryd.ntmps11
    go_wp2
    go_ret2
    exact ⟨rfl, rfl⟩
set_option maxHeartbeats 400000 in
theorem number_long (s : ByteArray) (w : World) (h0 : 0 < s.size) (h1 : s.size ≤ 10) (h2 : ¬ (bt s 0 = 48 ∧ 1 < s.size)) (v : Int × Bool)
    (hv1 : digitsB s s.size = false → v = (0, false)) (hv2 : digitsB s s.size = true → 4294967295 < numZ s s.size → v = (0, false)) (hv3 : digitsB s s.size = true → numZ s s.size ≤ 4294967295 → v = (numZ s s.size, true)) :
    Calls Tryd.prog 11 #[.string s] w (NumEnd v w) := by
  have hb := get_bt s
  have H1 := Lib.hid hv1
  have H2 := Lib.hid hv2
  have H3 := Lib.hid hv3
  clear hv1 hv2 hv3
  have f1 := size_full h0
  have f2 : s.toList.isEmpty = false := by cases hh : s.toList with | nil => exact absurd hh f1 | cons _ _ => rfl
  have hcase : (bt s 0 == 48) = false ∨ ((bt s 0 == 48) = true ∧ s.size ≤ 1) := by
    by_cases e : bt s 0 = 48
    · right; exact ⟨by rw [e]; rfl, by omega⟩
    · left; simpa using e
  clear h2
  rcases hcase with f3 | ⟨f3, f4⟩
  all_goals
    go_enter Tryd.func11, Tryd.ntmps11
    go_wp2
    go_loop [4, 25] (fun n i => ∃ k : Nat, k ≤ s.size ∧ i = .int .i64 k ∧ n = .int .i64 (numZ s k) ∧ Hid (digitsB s k = true)) (fun _ i => s.size - (intOf i).toNat)
    case atStart => exact ⟨0, by omega, rfl, rfl, rfl⟩
    case round =>
      obtain ⟨k, hk, rfl, rfl, hd⟩ := hrel
      obtain ⟨n0, n1⟩ := numZ_small s k (by omega) hd.out
      have b0 := bt_nonneg s k
      have b1 := bt_le s k
      by_cases hlt : k < s.size
      · by_cases h48 : 48 ≤ bt s k
        · by_cases h57 : bt s k ≤ 57
          · have hn : Hid (digitsB s (k + 1) = true) := by show _ = _; simp only [digitsB, hd.out, h48, h57, decide_true, Bool.and_self]
            go_wp2
            go_round
            case rel => exact ⟨k + 1, by omega, by go_num, rfl, hn⟩
            case measure => simp [intOf]; omega
          · have hx := H1.out (digits_stop s k s.size hlt (by simp [h57]))
            have HX := Lib.hid hx
            clear hx
            go_wp2
            go_ret2
            exact ⟨by rw [HX.out]; rfl, rfl⟩
        · have hx := H1.out (digits_stop s k s.size hlt (by simp [h48]))
          have HX := Lib.hid hx
          clear hx
          go_wp2
          go_ret2
          exact ⟨by rw [HX.out]; rfl, rfl⟩
      · obtain rfl : k = s.size := by omega
        by_cases hm : 4294967295 < numZ s s.size
        · have HX := Lib.hid (H2.out hd.out hm)
          go_wp2
          go_ret2
          exact ⟨by rw [HX.out]; rfl, rfl⟩
        · have HX := Lib.hid (H3.out hd.out (by omega))
          go_wp2
          go_ret2
          exact ⟨by rw [HX.out]; rfl, rfl⟩
theorem number_any (s : ByteArray) (w : World) (hs : s.size ≤ 9223372036854775807) : Calls Tryd.prog 11 #[.string s] w (NumEnd (numB s) w) := by
  unfold numB
  by_cases h : s.size = 0 ∨ 10 < s.size ∨ (bt s 0 = 48 ∧ 1 < s.size)
  · rw [if_pos h]; exact number_short s w hs h
  · rw [if_neg h]
    refine number_long s w (by omega) (by omega) (by omega) _ (fun h1 => ?_) (fun h1 h2 => ?_) (fun h1 h2 => ?_)
    · rw [if_pos h1]
    · rw [if_neg (by simp [h1]), if_pos h2]
    · rw [if_neg (by simp [h1]), if_neg (by omega)]
theorem rnumber_short (s : ByteArray) (w : World) (hs : s.size ≤ 9223372036854775807) (h : s.size = 0 ∨ 10 < s.size ∨ (bt s 0 = 48 ∧ 1 < s.size)) : Calls Tryd.prog 18 #[.string s] w (NumEnd (0, false) w) := by
  have hb := get_bt s
  have hcase : s.size = 0 ∨ 10 < s.size ∨ (s.size ≤ 10 ∧ bt s 0 = 48 ∧ 1 < s.size) := by omega
  clear h
  rcases hcase with h | h | ⟨h, h48, h1⟩
  · have f1 := size_empty h
    go_enter Tryd.func18, Tryd.ntmps18
    go_wp2
    go_ret2
    exact ⟨rfl, rfl⟩
  · have f1 := size_full (s := s) (by omega)
    have f2 : s.toList.isEmpty = false := by cases hh : s.toList with | nil => exact absurd hh f1 | cons _ _ => rfl
    go_enter Tryd.func18, Tryd.ntmps18
    go_wp2
    go_ret2
    exact ⟨rfl, rfl⟩
  · have f1 := size_full (s := s) (by omega)
    have f2 : s.toList.isEmpty = false := by cases hh : s.toList with | nil => exact absurd hh f1 | cons _ _ => rfl
    have f3 : (bt s 0 == 48) = true := by rw [h48]; rfl
    have f4 : 0 < s.size := by omega
    go_enter Tryd.func18, Tryd.ntmps18
    go_wp2
    go_ret2
    exact ⟨rfl, rfl⟩
set_option maxHeartbeats 400000 in
theorem rnumber_long (s : ByteArray) (w : World) (h0 : 0 < s.size) (h1 : s.size ≤ 10) (h2 : ¬ (bt s 0 = 48 ∧ 1 < s.size)) (v : Int × Bool)
    (hv1 : digitsB s s.size = false → v = (0, false)) (hv2 : digitsB s s.size = true → 4294967295 < numZ s s.size → v = (0, false)) (hv3 : digitsB s s.size = true → numZ s s.size ≤ 4294967295 → v = (numZ s s.size, true)) :
    Calls Tryd.prog 18 #[.string s] w (NumEnd v w) := by
  have hb := get_bt s
  have H1 := Lib.hid hv1
  have H2 := Lib.hid hv2
  have H3 := Lib.hid hv3
  clear hv1 hv2 hv3
  have f1 := size_full h0
  have f2 : s.toList.isEmpty = false := by cases hh : s.toList with | nil => exact absurd hh f1 | cons _ _ => rfl
  have hcase : ((bt s 0 == 48) = false ∧ s.size ≤ 1) ∨ ((bt s 0 == 48) = false ∧ 1 < s.size) ∨ ((bt s 0 == 48) = true ∧ s.size ≤ 1) := by
    by_cases e : bt s 0 = 48
    · right; right; exact ⟨by rw [e]; rfl, by omega⟩
    · have e' : (bt s 0 == 48) = false := by simpa using e
      by_cases h' : s.size ≤ 1
      · exact Or.inl ⟨e', h'⟩
      · exact Or.inr (Or.inl ⟨e', by omega⟩)
  clear h2
  rcases hcase with ⟨f3, f4⟩ | ⟨f3, f4⟩ | ⟨f3, f4⟩
  all_goals
    go_enter Tryd.func18, Tryd.ntmps18
    go_wp2
    go_loop [4, 5] (fun n i => ∃ k : Nat, k ≤ s.size ∧ i = .int .i64 k ∧ n = .int .i64 (numZ s k) ∧ Hid (digitsB s k = true)) (fun _ i => s.size - (intOf i).toNat)
    case atStart => exact ⟨0, by omega, rfl, rfl, rfl⟩
    case round =>
      obtain ⟨k, hk, rfl, rfl, hd⟩ := hrel
      obtain ⟨n0, n1⟩ := numZ_small s k (by omega) hd.out
      have b0 := bt_nonneg s k
      have b1 := bt_le s k
      by_cases hlt : k < s.size
      · by_cases h48 : 48 ≤ bt s k
        · by_cases h57 : bt s k ≤ 57
          · have hn : Hid (digitsB s (k + 1) = true) := by show _ = _; simp only [digitsB, hd.out, h48, h57, decide_true, Bool.and_self]
            go_wp2
            go_round
            case rel => exact ⟨k + 1, by omega, by go_num, congrArg (Value.int .i64) (by simp only [numZ]; omega), hn⟩
            case measure => simp [intOf]; omega
          · have hx := H1.out (digits_stop s k s.size hlt (by simp [h57]))
            have HX := Lib.hid hx
            clear hx
            go_wp2
            go_ret2
            exact ⟨by rw [HX.out]; rfl, rfl⟩
        · have hx := H1.out (digits_stop s k s.size hlt (by simp [h48]))
          have HX := Lib.hid hx
          clear hx
          go_wp2
          go_ret2
          exact ⟨by rw [HX.out]; rfl, rfl⟩
      · obtain rfl : k = s.size := by omega
        by_cases hm : 4294967295 < numZ s s.size
        · have HX := Lib.hid (H2.out hd.out hm)
          go_wp2
          go_ret2
          exact ⟨by rw [HX.out]; rfl, rfl⟩
        · have HX := Lib.hid (H3.out hd.out (by omega))
          go_wp2
          go_ret2
          exact ⟨by rw [HX.out]; rfl, rfl⟩
theorem rnumber_any (s : ByteArray) (w : World) (hs : s.size ≤ 9223372036854775807) : Calls Tryd.prog 18 #[.string s] w (NumEnd (numB s) w) := by
  unfold numB
  by_cases h : s.size = 0 ∨ 10 < s.size ∨ (bt s 0 = 48 ∧ 1 < s.size)
  · rw [if_pos h]; exact rnumber_short s w hs h
  · rw [if_neg h]
    refine rnumber_long s w (by omega) (by omega) (by omega) _ (fun h1 => ?_) (fun h1 h2 => ?_) (fun h1 h2 => ?_)
    · rw [if_pos h1]
    · rw [if_neg (by simp [h1]), if_pos h2]
    · rw [if_neg (by simp [h1]), if_neg (by omega)]
theorem bool_ret {a b : Bool} (h : a = b) : Ending.returned (.bool a) = .returned (.bool b) := by rw [h]
theorem atoms_stop (s : ByteArray) (k n : Nat) (h : k < n) (hk : atomCh (bt s k) = false) : atomsB s n = false := by
  induction n with
  | zero => omega
  | succ n ih =>
    simp only [atomsB]
    by_cases e : k = n
    · subst e; rw [hk, Bool.and_false]
    · rw [ih (by omega), Bool.false_and]
theorem atom_low {c : Int} (h : c < 33) : atomCh c = false := by
  unfold atomCh
  rw [show decide (33 ≤ c) = false by simp; omega]; rfl
theorem atom_high {c : Int} (h : 126 < c) : atomCh c = false := by
  unfold atomCh
  rw [show decide (c ≤ 126) = false by simp; omega, Bool.and_false]; rfl
theorem atom_mid {c : Int} (h0 : 33 ≤ c) (h1 : c ≤ 126) : atomCh c = !(c == 40 || c == 41 || c == 123 || c == 125 || c == 37 || c == 42 || c == 34 || c == 92 || c == 93) := by
  unfold atomCh
  rw [show decide (33 ≤ c) = true by simp; omega, show decide (c ≤ 126) = true by simp; omega]; rfl
theorem signs_index : ∀ c : Fin 256, decide (0 ≤ Lib.indexByte [40, 41, 123, 125, 37, 42, 34, 92, 93] (UInt8.ofNat c.val)) = (((c.val : Int) == 40) || ((c.val : Int) == 41) || ((c.val : Int) == 123) || ((c.val : Int) == 125) || ((c.val : Int) == 37) || ((c.val : Int) == 42) || ((c.val : Int) == 34) || ((c.val : Int) == 92) || ((c.val : Int) == 93)) := by decide +kernel
theorem signs_at (c : Int) (h0 : 0 ≤ c) (h1 : c < 256) : decide (0 ≤ Lib.indexByte [40, 41, 123, 125, 37, 42, 34, 92, 93] c.toNat.toUInt8) = (c == 40 || c == 41 || c == 123 || c == 125 || c == 37 || c == 42 || c == 34 || c == 92 || c == 93) := by
  obtain ⟨n, rfl⟩ := Int.eq_ofNat_of_zero_le h0
  exact signs_index ⟨n, by omega⟩
set_option maxHeartbeats 400000 in
theorem atom_any (s : ByteArray) (w : World) (hs : s.size ≤ 9223372036854775807) : Calls Tryd.prog 16 #[.string s] w fun e w' => e = .returned (.bool (atomB s)) ∧ w = w' := by
  have hb := get_bt s
  go_enter Tryd.func16, Tryd.ntmps16
  go_wp2
  go_loop [6] (fun i => ∃ k : Nat, k ≤ s.size ∧ i = .int .i64 k ∧ Hid (atomsB s k = true)) (fun i => s.size - (intOf i).toNat)
  case atStart => exact ⟨0, by omega, rfl, rfl⟩
  case round =>
    obtain ⟨k, hk, rfl, hd⟩ := hrel
    have b0 := bt_nonneg s k
    have b1 := bt_le s k
    by_cases hlt : k < s.size
    · by_cases h33 : 33 ≤ bt s k
      · by_cases h126 : bt s k ≤ 126
        · have hsg := signs_at (bt s k) b0 (by omega)
          have hmid := atom_mid h33 h126
          cases hx : decide (0 ≤ Lib.indexByte [40, 41, 123, 125, 37, 42, 34, 92, 93] (UInt8.ofNat (bt s k).toNat)) with
          | true =>
            have hx' : 0 ≤ Lib.indexByte [40, 41, 123, 125, 37, 42, 34, 92, 93] (UInt8.ofNat (bt s k).toNat) := of_decide_eq_true hx
            have hz := atoms_stop s k s.size hlt (by rw [hmid, ← hsg, hx]; rfl)
            have HZ := Lib.hid hz
            clear hsg hmid hx hz
            go_wp2_with (go_at_call 26; refine (Tryd.strings_IndexByte _ _ _).mono ?_; rintro e w1 ⟨rfl, hw⟩; obtain rfl : _ = w1 := hw.symm)
            go_ret
            exact ⟨bool_ret (by unfold atomB; rw [HZ.out]; rfl), rfl⟩
          | false =>
            have hx' : Lib.indexByte [40, 41, 123, 125, 37, 42, 34, 92, 93] (UInt8.ofNat (bt s k).toNat) < 0 := by have := of_decide_eq_false hx; omega
            have hn : Hid (atomsB s (k + 1) = true) := by show _ = _; simp only [atomsB, hd.out, Bool.true_and]; rw [hmid, ← hsg, hx]; rfl
            clear hsg hmid hx
            go_wp2_with (go_at_call 26; refine (Tryd.strings_IndexByte _ _ _).mono ?_; rintro e w1 ⟨rfl, hw⟩; obtain rfl : _ = w1 := hw.symm)
            go_round
            case rel => exact ⟨k + 1, by omega, by go_num, hn⟩
            case measure => simp [intOf]; omega
        · have HZ := Lib.hid (atoms_stop s k s.size hlt (atom_high (by omega)))
          go_wp2
          go_ret
          exact ⟨bool_ret (by unfold atomB; rw [HZ.out]; rfl), rfl⟩
      · have HZ := Lib.hid (atoms_stop s k s.size hlt (atom_low (by omega)))
        go_wp2
        go_ret
        exact ⟨bool_ret (by unfold atomB; rw [HZ.out]; rfl), rfl⟩
    · obtain rfl : k = s.size := by omega
      by_cases h0 : s.size = 0
      · have f1 := size_empty h0
        have HB : Hid (atomB s = false) := by show _ = _; unfold atomB; rw [h0]; simp
        clear h0
        go_wp2
        go_ret
        exact ⟨bool_ret (by rw [HB.out]), rfl⟩
      · have f1 := size_full (s := s) (by omega)
        have f2 : s.toList.isEmpty = false := by cases hh : s.toList with | nil => exact absurd hh f1 | cons _ _ => rfl
        have HB : Hid (atomB s = true) := by show _ = _; unfold atomB; rw [hd.out]; simp [h0]
        go_wp2
        go_ret
        exact ⟨bool_ret (by rw [HB.out]), rfl⟩
end Go.Proofs.YtejodjgeamaejaaDoor
