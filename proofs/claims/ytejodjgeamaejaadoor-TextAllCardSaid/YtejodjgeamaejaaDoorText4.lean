/- The walks of package text: Atom of the reference, plain, String, both. -/
import Derived.Test.YtejodjgeamaejaaDoorText3
namespace Go.Proofs.YtejodjgeamaejaaDoor
open Go.RowKit Go.PlainAid
set_option linter.unusedVariables false
set_option linter.unusedSimpArgs false
theorem ret_str' {a b : ByteArray} (h : a = b) : Ending.returned (.string a) = .returned (.string b) := by rw [h]
set_option maxHeartbeats 1000000 in
set_option maxRecDepth 100000 in
theorem ratom_any (s : ByteArray) (w : World) (hs : s.size ≤ 9223372036854775807) : Calls Tryd.prog 21 #[.string s] w fun e w' => e = .returned (.bool (atomB s)) ∧ w = w' := by
  have hb := get_bt s
  go_enter Tryd.func21, Tryd.ntmps21
  go_wp2
  go_loop [3] (fun i => ∃ k : Nat, k ≤ s.size ∧ i = .int .i64 k ∧ Hid (atomsB s k = true)) (fun i => s.size - (intOf i).toNat)
  case atStart => exact ⟨0, by omega, rfl, rfl⟩
  case round =>
    obtain ⟨k, hk, rfl, hd⟩ := hrel
    have b0 := bt_nonneg s k
    have b1 := bt_le s k
    by_cases hlt : k < s.size
    · by_cases h33 : 33 ≤ bt s k
      · by_cases h126 : bt s k ≤ 126
        · cases e40 : (bt s k == 40) with
          | true =>
            have HZ := Lib.hid (atoms_stop s k s.size hlt (by rw [atom_mid h33 h126]; simp only [e40, Bool.false_or, Bool.true_or, Bool.not_true]))
            go_wp2
            go_ret
            exact ⟨bool_ret (by unfold atomB; rw [HZ.out]; rfl), rfl⟩
          | false =>
            cases e41 : (bt s k == 41) with
            | true =>
              have HZ := Lib.hid (atoms_stop s k s.size hlt (by rw [atom_mid h33 h126]; simp only [e40, e41, Bool.false_or, Bool.true_or, Bool.not_true]))
              go_wp2
              go_ret
              exact ⟨bool_ret (by unfold atomB; rw [HZ.out]; rfl), rfl⟩
            | false =>
              cases e123 : (bt s k == 123) with
              | true =>
                have HZ := Lib.hid (atoms_stop s k s.size hlt (by rw [atom_mid h33 h126]; simp only [e40, e41, e123, Bool.false_or, Bool.true_or, Bool.not_true]))
                go_wp2
                go_ret
                exact ⟨bool_ret (by unfold atomB; rw [HZ.out]; rfl), rfl⟩
              | false =>
                cases e125 : (bt s k == 125) with
                | true =>
                  have HZ := Lib.hid (atoms_stop s k s.size hlt (by rw [atom_mid h33 h126]; simp only [e40, e41, e123, e125, Bool.false_or, Bool.true_or, Bool.not_true]))
                  go_wp2
                  go_ret
                  exact ⟨bool_ret (by unfold atomB; rw [HZ.out]; rfl), rfl⟩
                | false =>
                  cases e37 : (bt s k == 37) with
                  | true =>
                    have HZ := Lib.hid (atoms_stop s k s.size hlt (by rw [atom_mid h33 h126]; simp only [e40, e41, e123, e125, e37, Bool.false_or, Bool.true_or, Bool.not_true]))
                    go_wp2
                    go_ret
                    exact ⟨bool_ret (by unfold atomB; rw [HZ.out]; rfl), rfl⟩
                  | false =>
                    cases e42 : (bt s k == 42) with
                    | true =>
                      have HZ := Lib.hid (atoms_stop s k s.size hlt (by rw [atom_mid h33 h126]; simp only [e40, e41, e123, e125, e37, e42, Bool.false_or, Bool.true_or, Bool.not_true]))
                      go_wp2
                      go_ret
                      exact ⟨bool_ret (by unfold atomB; rw [HZ.out]; rfl), rfl⟩
                    | false =>
                      cases e34 : (bt s k == 34) with
                      | true =>
                        have HZ := Lib.hid (atoms_stop s k s.size hlt (by rw [atom_mid h33 h126]; simp only [e40, e41, e123, e125, e37, e42, e34, Bool.false_or, Bool.true_or, Bool.not_true]))
                        go_wp2
                        go_ret
                        exact ⟨bool_ret (by unfold atomB; rw [HZ.out]; rfl), rfl⟩
                      | false =>
                        cases e92 : (bt s k == 92) with
                        | true =>
                          have HZ := Lib.hid (atoms_stop s k s.size hlt (by rw [atom_mid h33 h126]; simp only [e40, e41, e123, e125, e37, e42, e34, e92, Bool.false_or, Bool.true_or, Bool.not_true]))
                          go_wp2
                          go_ret
                          exact ⟨bool_ret (by unfold atomB; rw [HZ.out]; rfl), rfl⟩
                        | false =>
                          cases e93 : (bt s k == 93) with
                          | true =>
                            have HZ := Lib.hid (atoms_stop s k s.size hlt (by rw [atom_mid h33 h126]; simp only [e40, e41, e123, e125, e37, e42, e34, e92, e93, Bool.false_or, Bool.true_or, Bool.not_true]))
                            go_wp2
                            go_ret
                            exact ⟨bool_ret (by unfold atomB; rw [HZ.out]; rfl), rfl⟩
                          | false =>
                            have hn : Hid (atomsB s (k + 1) = true) := by show _ = _; simp only [atomsB, hd.out, Bool.true_and]; rw [atom_mid h33 h126]; simp only [e40, e41, e123, e125, e37, e42, e34, e92, e93, Bool.false_or, Bool.not_false]
                            go_wp2
                            go_round
                            case rel => exact ⟨k + 1, by omega, by go_num, hn⟩
                            case measure => simp [intOf]; omega
        · have HZ := Lib.hid (atoms_stop s k s.size hlt (atom_high (by omega)))
          go_wp2
          go_ret
          exact ⟨bool_ret (by unfold atomB; rw [HZ.out]; rfl), rfl⟩
      · have HZ := Lib.hid (atoms_stop s k s.size hlt (atom_low (by omega)))
        go_wp2
        go_ret
        exact ⟨bool_ret (by unfold atomB; rw [HZ.out]; rfl), rfl⟩
    · obtain rfl : k = s.size := by omega
      by_cases h0 : s.size = 0
      · have f1 := size_empty h0
        have HB : Hid (atomB s = false) := by show _ = _; unfold atomB; rw [h0]; simp
        clear h0
        go_wp2
        go_ret
        exact ⟨bool_ret (by rw [HB.out]), rfl⟩
      · have f1 := size_full (s := s) (by omega)
        have f2 : s.toList.isEmpty = false := by cases hh : s.toList with | nil => exact absurd hh f1 | cons _ _ => rfl
        have HB : Hid (atomB s = true) := by show _ = _; unfold atomB; rw [hd.out]; simp [h0]
        go_wp2
        go_ret
        exact ⟨bool_ret (by rw [HB.out]), rfl⟩
theorem plains_stop (s : ByteArray) (k n : Nat) (h : k < n) (hk : (decide (32 ≤ bt s k) && decide (bt s k ≤ 126)) = false) : plainsB s n = false := by
  induction n with
  | zero => omega
  | succ n ih =>
    simp only [plainsB]
    by_cases e : k = n
    · subst e; rw [hk, Bool.and_false]
    · rw [ih (by omega), Bool.false_and]
theorem plain_any (s : ByteArray) (w : World) (hs : s.size ≤ 9223372036854775807) : Calls Tryd.prog 25 #[.string s] w fun e w' => e = .returned (.bool (plainB s)) ∧ w = w' := by
  have hb := get_bt s
  go_enter Tryd.func25, Tryd.ntmps25
  go_wp2
  go_loop [6] (fun i => ∃ k : Nat, k ≤ s.size ∧ i = .int .i64 k ∧ Hid (plainsB s k = true)) (fun i => s.size - (intOf i).toNat)
  case atStart => exact ⟨0, by omega, rfl, rfl⟩
  case round =>
    obtain ⟨k, hk, rfl, hd⟩ := hrel
    have b0 := bt_nonneg s k
    have b1 := bt_le s k
    by_cases hlt : k < s.size
    · by_cases h32 : 32 ≤ bt s k
      · by_cases h126 : bt s k ≤ 126
        · have hn : Hid (plainsB s (k + 1) = true) := by show _ = _; simp only [plainsB, hd.out, h32, h126, decide_true, Bool.and_self]
          go_wp2
          go_round
          case rel => exact ⟨k + 1, by omega, by go_num, hn⟩
          case measure => simp [intOf]; omega
        · have HZ := Lib.hid (plains_stop s k s.size hlt (by simp [h126]))
          go_wp2
          go_ret
          exact ⟨bool_ret (by unfold plainB; rw [HZ.out]; rfl), rfl⟩
      · have HZ := Lib.hid (plains_stop s k s.size hlt (by simp [h32]))
        go_wp2
        go_ret
        exact ⟨bool_ret (by unfold plainB; rw [HZ.out]; rfl), rfl⟩
    · obtain rfl : k = s.size := by omega
      go_wp2
      go_ret
      exact ⟨bool_ret (by unfold plainB; rw [hd.out]; simp; omega), rfl⟩
theorem string_lit (s : ByteArray) (w : World) (hs : s.size ≤ 1099511627776) (hT : TabOK w) (hp : plainB s = false) : Calls Tryd.prog 14 #[.string s] w fun e w' => e = .returned (.string (strS s)) ∧ Below w.heap.size w w' := by
  have hW := Below.refl w.heap.size w
  have hsz := itoa_len s.size (by omega) (by omega)
  have h1 : (⟨#[123]⟩ : ByteArray).size ≤ 1 := by decide
  have h2 : (⟨#[125, 13, 10]⟩ : ByteArray).size ≤ 3 := by decide
  have h3 : (⟨#[123]⟩ ++ digS s.size : ByteArray).size ≤ 22 := by rw [ByteArray.size_append]; omega
  have h4 : (⟨#[123]⟩ ++ digS s.size ++ ⟨#[125, 13, 10]⟩ : ByteArray).size ≤ 25 := by rw [ByteArray.size_append]; omega
  have HP : Hid (strS s = ⟨#[123]⟩ ++ digS s.size ++ ⟨#[125, 13, 10]⟩ ++ s) := by show _ = _; unfold strS; rw [hp]; rfl
  go_enter Tryd.func14, Tryd.ntmps14
  go_wp2_with (first
    | (go_at_call 25; refine (plain_any _ _ (by omega)).mono ?_; rintro e w1 ⟨rfl, rfl⟩)
    | (go_at_call 12; refine (digits_any _ _ (by omega) (by omega) hT).mono ?_; rintro e w1 ⟨rfl, hw1⟩; (first | replace hW := nextB hW hw1 | replace hW := nextA hW hw1 | replace hW := nextB hW.drew hw1 | replace hW := nextAA hW hw1 | replace hW := nextAD hW hw1); clear hw1))
  go_ret
  exact ⟨ret_str' (by rw [HP.out]), hW⟩
set_option maxHeartbeats 400000 in
theorem string_quoted (s : ByteArray) (w : World) (hs : s.size ≤ 1099511627776) (hp : plainB s = true) : Calls Tryd.prog 14 #[.string s] w fun e w' => e = .returned (.string (strS s)) ∧ Below w.heap.size w w' := by
  have hb := get_bt s
  have hW := Below.refl w.heap.size w
  have h200 : s.size ≤ 200 := by unfold plainB at hp; simp at hp; exact hp.2
  have HP := Lib.hid hp
  go_enter Tryd.func14, Tryd.ntmps14
  go_wp2_with (go_at_call 25; refine (plain_any _ _ (by omega)).mono ?_; rintro e w1 ⟨rfl, rfl⟩)
  clear hp
  go_loopw [3, 18] (fun v i wr => ∃ k : Nat, k ≤ s.size ∧ i = .int .i64 k ∧ OwnB wr w.heap.size v (escZ s k) ∧ Below w.heap.size w wr) (fun _ i _ => s.size - (intOf i).toNat)
  case atStart => exact ⟨0, by omega, rfl, OwnB.one _ _ 34 hW.size, hW.alloc hW.size _⟩
  case round =>
    obtain ⟨k, hk, rfl, hown, hW⟩ := hrel
    have hlen := escZ_len s k
    have b0 := bt_nonneg s k
    have b1 := bt_le s k
    by_cases hlt : k < s.size
    · cases h34 : (bt s k == 34) with
      | true =>
        have HE : Hid (escZ s (k + 1) = escZ s k ++ [92] ++ [bt s k]) := by show _ = _; simp only [escZ, escN]; rw [if_pos (by simpa using (Or.inl (by simpa using h34) : bt s k = 34 ∨ bt s k = 92))]; simp
        go_wp2_with (first | (at_builtin; refine wpList_push _ rfl (.tmp 31) (.tmp 32) rfl w.heap.size _ _ rfl hown _ rfl (by first | omega | (rw [List.length_append]; simp only [List.length_cons, List.length_nil]; omega)) hW.size ?_; intro v' w2 hown1 hb1) | (at_builtin; refine wpList_push _ rfl (.tmp 34) (.tmp 38) rfl w.heap.size _ _ rfl hown1 _ rfl (by first | omega | (rw [List.length_append]; simp only [List.length_cons, List.length_nil]; omega)) (hW.trans hb1).size ?_; intro v' w2 hown2 hb2))
        go_roundw
        case rel => exact ⟨k + 1, by omega, by go_num, by rw [HE.out]; exact hown2, (hW.trans hb1).trans hb2⟩
        case measure => simp [intOf]; omega
      | false =>
        cases h92 : (bt s k == 92) with
        | true =>
          have HE : Hid (escZ s (k + 1) = escZ s k ++ [92] ++ [bt s k]) := by show _ = _; simp only [escZ, escN]; rw [if_pos (by simpa using (Or.inr (by simpa using h92) : bt s k = 34 ∨ bt s k = 92))]; simp
          go_wp2_with (first | (at_builtin; refine wpList_push _ rfl (.tmp 31) (.tmp 32) rfl w.heap.size _ _ rfl hown _ rfl (by first | omega | (rw [List.length_append]; simp only [List.length_cons, List.length_nil]; omega)) hW.size ?_; intro v' w2 hown1 hb1) | (at_builtin; refine wpList_push _ rfl (.tmp 34) (.tmp 38) rfl w.heap.size _ _ rfl hown1 _ rfl (by first | omega | (rw [List.length_append]; simp only [List.length_cons, List.length_nil]; omega)) (hW.trans hb1).size ?_; intro v' w2 hown2 hb2))
          go_roundw
          case rel => exact ⟨k + 1, by omega, by go_num, by rw [HE.out]; exact hown2, (hW.trans hb1).trans hb2⟩
          case measure => simp [intOf]; omega
        | false =>
          have HE : Hid (escZ s (k + 1) = escZ s k ++ [bt s k]) := by show _ = _; simp only [escZ, escN]; rw [if_neg (by simp only [beq_eq_false_iff_ne] at h34 h92; omega)]
          go_wp2_with (at_builtin; refine wpList_push _ rfl (.tmp 34) (.tmp 38) rfl w.heap.size _ _ rfl hown _ rfl (by first | omega | (rw [List.length_append]; simp only [List.length_cons, List.length_nil]; omega)) hW.size ?_; intro v' w2 hown2 hb2)
          go_roundw
          case rel => exact ⟨k + 1, by omega, by go_num, by rw [HE.out]; exact hown2, hW.trans hb2⟩
          case measure => simp [intOf]; omega
    · obtain rfl : k = s.size := by omega
      go_wp2_with (at_builtin; refine wpList_push _ rfl (.tmp 41) (.tmp 42) rfl w.heap.size _ _ rfl hown _ rfl (by first | omega | (rw [List.length_append]; simp only [List.length_cons, List.length_nil]; omega)) hW.size ?_; intro v' w2 hown2 hb2; have hc := hown2.conv)
      go_ret
      exact ⟨ret_str' (by unfold strS; rw [HP.out]; rfl), hW.trans hb2⟩
theorem string_any (s : ByteArray) (w : World) (hs : s.size ≤ 1099511627776) (hT : TabOK w) : Calls Tryd.prog 14 #[.string s] w fun e w' => e = .returned (.string (strS s)) ∧ Below w.heap.size w w' := by
  cases hp : plainB s with
  | false => exact string_lit s w hs hT hp
  | true => exact string_quoted s w hs hp
theorem rstring_long (s : ByteArray) (w : World) (hs : s.size ≤ 1099511627776) (h200 : 200 < s.size) : Calls Tryd.prog 22 #[.string s] w fun e w' => e = .returned (.string (strS s)) ∧ Below w.heap.size w w' := by
  have hW := Below.refl w.heap.size w
  have hsz := itoa_len s.size (by omega) (by omega)
  have h1 : (⟨#[123]⟩ : ByteArray).size ≤ 1 := by decide
  have h2 : (⟨#[125, 13, 10]⟩ : ByteArray).size ≤ 3 := by decide
  have h3 : (⟨#[123]⟩ ++ digS s.size : ByteArray).size ≤ 22 := by rw [ByteArray.size_append]; omega
  have h4 : (⟨#[123]⟩ ++ digS s.size ++ ⟨#[125, 13, 10]⟩ : ByteArray).size ≤ 25 := by rw [ByteArray.size_append]; omega
  have HP : Hid (strS s = ⟨#[123]⟩ ++ digS s.size ++ ⟨#[125, 13, 10]⟩ ++ s) := by show _ = _; unfold strS plainB; rw [if_neg (by simp; omega)]
  go_enter Tryd.func22, Tryd.ntmps22
  go_wp2
  go_loop [3, 4] (fun p i => p = .bool false ∧ i = .int .i64 0) (fun _ _ => 0)
  case atStart => exact ⟨congrArg Value.bool (by simp; omega), rfl⟩
  case round =>
    obtain ⟨rfl, rfl⟩ := hrel
    go_wp2_with (go_at_call 20; refine (rdigits_any s.size _ _ (by omega) (by omega)).mono ?_; rintro e w1 ⟨rfl, hw1⟩; (first | replace hW := nextB hW hw1 | replace hW := nextA hW hw1 | replace hW := nextB hW.drew hw1 | replace hW := nextAA hW hw1 | replace hW := nextAD hW hw1); clear hw1)
    go_ret
    exact ⟨ret_str' (by rw [HP.out]), hW⟩
set_option maxHeartbeats 1000000 in
theorem rstring_short (s : ByteArray) (w : World) (h200 : s.size ≤ 200) : Calls Tryd.prog 22 #[.string s] w fun e w' => e = .returned (.string (strS s)) ∧ Below w.heap.size w w' := by
  have hb := get_bt s
  have hW := Below.refl w.heap.size w
  have hsz := itoa_len s.size (by omega) (by omega)
  have h1 : (⟨#[123]⟩ : ByteArray).size ≤ 1 := by decide
  have h2 : (⟨#[125, 13, 10]⟩ : ByteArray).size ≤ 3 := by decide
  have h3 : (⟨#[123]⟩ ++ digS s.size : ByteArray).size ≤ 22 := by rw [ByteArray.size_append]; omega
  have h4 : (⟨#[123]⟩ ++ digS s.size ++ ⟨#[125, 13, 10]⟩ : ByteArray).size ≤ 25 := by rw [ByteArray.size_append]; omega
  go_enter Tryd.func22, Tryd.ntmps22
  go_wp2
  go_loop [3, 4] (fun p i => ∃ k : Nat, k ≤ s.size ∧ i = .int .i64 k ∧ p = .bool (plainsB s k)) (fun _ i => s.size - (intOf i).toNat)
  case atStart => exact ⟨0, by omega, rfl, congrArg Value.bool (by simp [plainsB]; omega)⟩
  case round =>
    obtain ⟨k, hk, rfl, rfl⟩ := hrel
    have b0 := bt_nonneg s k
    have b1 := bt_le s k
    cases hd : plainsB s k with
    | false =>
      have HP : Hid (strS s = ⟨#[123]⟩ ++ digS s.size ++ ⟨#[125, 13, 10]⟩ ++ s) := by
        show _ = _
        have hz : plainsB s s.size = false := by
          have : ∀ d, plainsB s (k + d) = false := fun d => by
            induction d with
            | zero => exact hd
            | succ d ih => show plainsB s (k + d + 1) = false; simp only [plainsB]; rw [ih, Bool.false_and]
          have h := this (s.size - k)
          rwa [show k + (s.size - k) = s.size by omega] at h
        unfold strS plainB; rw [hz]; rfl
      by_cases hlt : k < s.size
      all_goals
        go_wp2_with (go_at_call 20; refine (rdigits_any s.size _ _ (by omega) (by omega)).mono ?_; rintro e w1 ⟨rfl, hw1⟩; (first | replace hW := nextB hW hw1 | replace hW := nextA hW hw1 | replace hW := nextB hW.drew hw1 | replace hW := nextAA hW hw1 | replace hW := nextAD hW hw1); clear hw1)
        go_ret
        exact ⟨ret_str' (by rw [HP.out]), hW⟩
    | true =>
      by_cases hlt : k < s.size
      · have hn : plainsB s (k + 1) = (decide (32 ≤ bt s k) && decide (bt s k ≤ 126)) := by simp only [plainsB, hd, Bool.true_and]
        by_cases h32 : 32 ≤ bt s k
        · by_cases h126 : bt s k ≤ 126
          · have HN : Hid (plainsB s (k + 1) = true) := by show _ = _; rw [hn]; simp [h32, h126]
            clear hn
            go_wp2
            go_round
            case rel => exact ⟨k + 1, by omega, by go_num, by rw [HN.out]⟩
            case measure => simp [intOf]; omega
          · have HN : Hid (plainsB s (k + 1) = false) := by show _ = _; rw [hn]; simp [h126]
            clear hn
            go_wp2
            go_round
            case rel => exact ⟨k + 1, by omega, by go_num, by rw [HN.out]⟩
            case measure => simp [intOf]; omega
        · have HN : Hid (plainsB s (k + 1) = false) := by show _ = _; rw [hn]; simp [h32]
          clear hn
          go_wp2
          go_round
          case rel => exact ⟨k + 1, by omega, by go_num, by rw [HN.out]⟩
          case measure => simp [intOf]; omega
      · obtain rfl : k = s.size := by omega
        have HP : Hid (plainB s = true) := by show _ = _; unfold plainB; rw [hd]; simp [h200]
        clear h1 h2 h3 h4 hsz
        go_wp2
        go_loopw [5, 6] (fun v i wr => ∃ k : Nat, k ≤ s.size ∧ i = .int .i64 k ∧ OwnB wr w.heap.size v (escZ s k) ∧ Below w.heap.size w wr) (fun _ i _ => s.size - (intOf i).toNat)
        case atStart => exact ⟨0, by omega, rfl, OwnB.one _ _ 34 hW.size, hW.alloc hW.size _⟩
        case round =>
          obtain ⟨k, hk, rfl, hown, hW⟩ := hrel
          have hlen := escZ_len s k
          have b0 := bt_nonneg s k
          have b1 := bt_le s k
          by_cases hlt : k < s.size
          · cases h34 : (bt s k == 34) with
            | true =>
              have HE : Hid (escZ s (k + 1) = escZ s k ++ [92] ++ [bt s k]) := by show _ = _; simp only [escZ, escN]; rw [if_pos (by simpa using (Or.inl (by simpa using h34) : bt s k = 34 ∨ bt s k = 92))]; simp
              go_wp2_with (first | (at_builtin; refine wpList_push _ rfl (.tmp 55) (.tmp 56) rfl w.heap.size _ _ rfl hown _ rfl (by first | omega | (rw [List.length_append]; simp only [List.length_cons, List.length_nil]; omega)) hW.size ?_; intro v' w2 hown1 hb1) | (at_builtin; refine wpList_push _ rfl (.tmp 58) (.tmp 62) rfl w.heap.size _ _ rfl hown1 _ rfl (by first | omega | (rw [List.length_append]; simp only [List.length_cons, List.length_nil]; omega)) (hW.trans hb1).size ?_; intro v' w2 hown2 hb2))
              go_roundw
              case rel => exact ⟨k + 1, by omega, by go_num, by rw [HE.out]; exact hown2, (hW.trans hb1).trans hb2⟩
              case measure => simp [intOf]; omega
            | false =>
              cases h92 : (bt s k == 92) with
              | true =>
                have HE : Hid (escZ s (k + 1) = escZ s k ++ [92] ++ [bt s k]) := by show _ = _; simp only [escZ, escN]; rw [if_pos (by simpa using (Or.inr (by simpa using h92) : bt s k = 34 ∨ bt s k = 92))]; simp
                go_wp2_with (first | (at_builtin; refine wpList_push _ rfl (.tmp 55) (.tmp 56) rfl w.heap.size _ _ rfl hown _ rfl (by first | omega | (rw [List.length_append]; simp only [List.length_cons, List.length_nil]; omega)) hW.size ?_; intro v' w2 hown1 hb1) | (at_builtin; refine wpList_push _ rfl (.tmp 58) (.tmp 62) rfl w.heap.size _ _ rfl hown1 _ rfl (by first | omega | (rw [List.length_append]; simp only [List.length_cons, List.length_nil]; omega)) (hW.trans hb1).size ?_; intro v' w2 hown2 hb2))
                go_roundw
                case rel => exact ⟨k + 1, by omega, by go_num, by rw [HE.out]; exact hown2, (hW.trans hb1).trans hb2⟩
                case measure => simp [intOf]; omega
              | false =>
                have HE : Hid (escZ s (k + 1) = escZ s k ++ [bt s k]) := by show _ = _; simp only [escZ, escN]; rw [if_neg (by simp only [beq_eq_false_iff_ne] at h34 h92; omega)]
                go_wp2_with (at_builtin; refine wpList_push _ rfl (.tmp 58) (.tmp 62) rfl w.heap.size _ _ rfl hown _ rfl (by first | omega | (rw [List.length_append]; simp only [List.length_cons, List.length_nil]; omega)) hW.size ?_; intro v' w2 hown2 hb2)
                go_roundw
                case rel => exact ⟨k + 1, by omega, by go_num, by rw [HE.out]; exact hown2, hW.trans hb2⟩
                case measure => simp [intOf]; omega
          · obtain rfl : k = s.size := by omega
            go_wp2_with (at_builtin; refine wpList_push _ rfl (.tmp 64) (.tmp 65) rfl w.heap.size _ _ rfl hown _ rfl (by first | omega | (rw [List.length_append]; simp only [List.length_cons, List.length_nil]; omega)) hW.size ?_; intro v' w2 hown2 hb2; have hc := hown2.conv)
            go_ret
            exact ⟨ret_str' (by unfold strS; rw [HP.out]; rfl), hW.trans hb2⟩
theorem rstring_any (s : ByteArray) (w : World) (hs : s.size ≤ 1099511627776) : Calls Tryd.prog 22 #[.string s] w fun e w' => e = .returned (.string (strS s)) ∧ Below w.heap.size w w' := by
  by_cases h : s.size ≤ 200
  · exact rstring_short s w h
  · exact rstring_long s w hs (by omega)
end Go.Proofs.YtejodjgeamaejaaDoor
