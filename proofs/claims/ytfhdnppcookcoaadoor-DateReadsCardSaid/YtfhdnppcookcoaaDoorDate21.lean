/- The walks of the reference's texts of seconds; the law DateTells. -/
import Derived.Test.YtfhdnppcookcoaaDoorDate11
import Derived.Test.YtfhdnppcookcoaaDoorDate20
namespace Go.Proofs.YtfhdnppcookcoaaDoor
open Go.RowKit Go.PlainAid
set_option linter.unusedVariables false
set_option linter.unusedSimpArgs false
def zerosB (j : Nat) : ByteArray := ⟨(Lib.repeatL [48] j).toArray⟩
theorem zerosB_size (j : Nat) : (zerosB j).size = j := by show (Lib.repeatL [48] j).toArray.size = j; simp [Lib.repeatL_length]
theorem zerosB_succ (j : Nat) (S : ByteArray) : ⟨#[48]⟩ ++ (zerosB j ++ S) = zerosB (j + 1) ++ S := by
  unfold zerosB
  have e : (⟨#[48]⟩ : ByteArray) = strOfNums [48] := by decide +kernel
  rw [zeros_ba, zeros_ba, e, ← ByteArray.append_assoc, nums_app]
  rfl
theorem rpad_any (n k : Int) (w : World) (h0 : 0 ≤ n) (h1 : n ≤ 1000000) (k0 : 0 ≤ k) (k1 : k ≤ 10) : Calls Tryd.prog 37 #[.int .i64 n, .int .i64 k] w fun e w' => e = .returned (.string (wideS n k)) ∧ Below w.heap.size w w' := by
  have hW := Below.refl w.heap.size w
  have hsz := itoa_len n h0 (by omega)
  obtain ⟨S, hS⟩ : ∃ S, S = digS n := ⟨_, rfl⟩
  have HF : Hid (∀ j : Nat, (j : Int) ≤ max 0 (k - (S.size : Int)) → k ≤ j + (S.size : Int) → wideS n k = zerosB j ++ S) := by
    intro j h2 h3
    unfold wideS
    rw [← hS, show (max 0 (k - (S.size : Int))).toNat = j by omega]; rfl
  have HD : Hid (∀ w, Calls Tryd.prog 26 #[.int .i64 n] w fun e w' => e = .returned (.string S) ∧ Below w.heap.size w w') := fun w => by rw [hS]; exact rdigits_any n.toNat n w (by omega) (by omega)
  rw [← hS] at hsz
  obtain ⟨V, hV⟩ : ∃ V, V = wideS n k := ⟨_, rfl⟩
  rw [← hV] at HF ⊢
  clear hS hV
  have HX : Hid (S = zerosB 0 ++ S) := by
    show S = zerosB 0 ++ S
    have e : zerosB 0 = strOfNums [] := by decide +kernel
    apply ba_ext'
    rw [app_toList, e, nums_toList]; rfl
  go_enter Tryd.func37, Tryd.ntmps37
  go_wp2_with fail
  refine (HD.out _).mono ?_; rintro e w1 ⟨rfl, hw1⟩; (first | replace hW := nextB hW hw1 | replace hW := nextA hW hw1 | replace hW := nextB hW.drew hw1 | replace hW := nextAA hW hw1 | replace hW := nextAD hW hw1); clear hw1
  go_wp2_with fail
  go_loop [5] (fun t => ∃ (j : Nat) (X : ByteArray), (j : Int) ≤ max 0 (k - (S.size : Int)) ∧ X.size ≤ 100 ∧ Hid (X.size = j + S.size) ∧ Hid (X = zerosB j ++ S) ∧ t = .string X) (fun t => match t with | .string X => 100 - X.size | _ => 0)
  case atStart => exact ⟨0, S, by omega, by omega, (by show S.size = 0 + S.size; omega), HX, rfl⟩
  case round =>
    obtain ⟨j, X, hj, hx0, hxs, hx, rfl⟩ := hrel
    have hxo := hxs.out
    by_cases hc : (X.size : Int) < k
    · have hs2 : Hid ((⟨#[48]⟩ ++ X : ByteArray).size = (j + 1) + S.size) := by
        show _ = _
        rw [ByteArray.size_append, show (⟨#[48]⟩ : ByteArray).size = 1 from rfl]; omega
      have hx2 : Hid (⟨#[48]⟩ ++ X = zerosB (j + 1) ++ S) := by show _ = _; rw [hx.out]; exact zerosB_succ j S
      have hj2 : ((j + 1 : Nat) : Int) ≤ max 0 (k - (S.size : Int)) := by omega
      have hle : (⟨#[48]⟩ ++ X : ByteArray).size ≤ 100 := by rw [hs2.out]; omega
      have hm : 100 - (⟨#[48]⟩ ++ X : ByteArray).size < 100 - X.size := by rw [hs2.out]; omega
      have HJ := Lib.hid hj2
      have HL := Lib.hid hle
      have HM := Lib.hid hm
      clear hj2 hle hm hxo hj
      go_wp2_with fail
      go_round
      case rel => exact ⟨j + 1, _, HJ.out, HL.out, hs2, hx2, rfl⟩
      case measure => exact HM.out
    · have he : V = X := by rw [hx.out]; exact HF.out j hj (by omega)
      have HE := Lib.hid he
      clear he hxo hj
      go_wp2_with fail
      go_ret
      exact ⟨by rw [HE.out]; rfl, hW⟩
theorem rmonth_any (m : Int) (w : World) (m0 : 1 ≤ m) (m1 : m ≤ 12) : Calls Tryd.prog 36 #[.int .i64 m] w fun e w' => e = .returned (.string (monthsS.extract (3 * m - 3).toNat (3 * m).toNat)) ∧ w = w' := by
  obtain ⟨k, rfl⟩ := Int.eq_ofNat_of_zero_le (show 0 ≤ m by omega)
  have g3 : (3 * (k : Int) - 3).toNat = 3 * k - 3 := by omega
  have g4 : (3 * (k : Int)).toNat = 3 * k := by omega
  have g5 : 0 ≤ 3 * (k : Int) - 3 := by omega
  have g6 : 3 * (k : Int) ≤ 36 := by omega
  have g7 : 3 * (k : Int) - 3 ≤ 3 * (k : Int) := by omega
  have g8 : 0 ≤ 3 * (k : Int) := by omega
  have g9 : 3 ≤ 3 * (k : Int) := by omega
  rw [g3, g4]
  go_enter Tryd.func36, Tryd.ntmps36
  go_wp2_with fail
  go_ret
  exact ⟨rfl, rfl⟩
def PadIs (n k : Int) (S : ByteArray) : Prop := ∀ w, Calls Tryd.prog 37 #[.int .i64 n, .int .i64 k] w fun e w' => e = .returned (.string S) ∧ Below w.heap.size w w'
theorem pad_is (n k : Int) (h0 : 0 ≤ n) (h1 : n ≤ 1000000) (k0 : 0 ≤ k) (k1 : k ≤ 10) : PadIs n k (wideS n k) := fun w => rpad_any n k w h0 h1 k0 k1
theorem PadIs.at_ {n k : Int} {S : ByteArray} (h : PadIs n k S) (w : World) : Calls Tryd.prog 37 #[.int .i64 n, .int .i64 k] w fun e w' => e = .returned (.string S) ∧ Below w.heap.size w w' := h w
def RDigIs (n : Int) (S : ByteArray) : Prop := ∀ w, Calls Tryd.prog 26 #[.int .i64 n] w fun e w' => e = .returned (.string S) ∧ Below w.heap.size w w'
def RCiv6Is (n y m d s : Int) : Prop := ∀ w, Calls Tryd.prog 17 #[.int .i64 n] w (Civ6End (y, m, d) s w)
def RMonIs (m : Int) (S : ByteArray) : Prop := ∀ w, Calls Tryd.prog 36 #[.int .i64 m] w fun e w' => e = .returned (.string S) ∧ w = w'
set_option maxRecDepth 100000 in
set_option maxHeartbeats 1000000 in
theorem rRfc_any (n : Int) (w : World) (h0 : -9223372036854775808 ≤ n) (h1 : n ≤ 9223372036854775807) : Calls Tryd.prog 20 #[.int .i64 n] w (StrBelow (rfcS n) w) := by
  have hW := Below.refl w.heap.size w
  obtain ⟨s0, s1⟩ := secs_le n
  have HC : Hid (RCiv6Is n (civ (secs n / 86400)).1 (civ (secs n / 86400)).2.1 (civ (secs n / 86400)).2.2 (secs n % 86400)) := fun w => rCivil_any n w h0 h1
  obtain ⟨y0, y1⟩ := civ_year (secs n / 86400) (by omega) (by omega)
  obtain ⟨⟨m0, m1, d0, d1⟩, _⟩ := civ_valid (secs n / 86400) (by omega)
  have hmd := mdays_le (civ (secs n / 86400)).1 (civ (secs n / 86400)).2.1
  have t0 : 0 ≤ secs n % 86400 ∧ secs n % 86400 < 86400 := by omega
  unfold rfcS
  generalize (civ (secs n / 86400)).1 = y at *
  generalize (civ (secs n / 86400)).2.1 = m at *
  generalize (civ (secs n / 86400)).2.2 = d at *
  generalize secs n % 86400 = s at *
  generalize mdays y m = L at *
  obtain ⟨t0, t1⟩ := t0
  have W1 : Hid (PadIs y 4 (wideS y 4)) := pad_is _ _ (by omega) (by omega) (by omega) (by omega)
  have W2 : Hid (PadIs m 2 (wideS m 2)) := pad_is _ _ (by omega) (by omega) (by omega) (by omega)
  have W3 : Hid (PadIs d 2 (wideS d 2)) := pad_is _ _ (by omega) (by omega) (by omega) (by omega)
  have W4 : Hid (PadIs (s / 3600) 2 (wideS (s / 3600) 2)) := pad_is _ _ (by omega) (by omega) (by omega) (by omega)
  have W5 : Hid (PadIs (s / 60 % 60) 2 (wideS (s / 60 % 60) 2)) := pad_is _ _ (by omega) (by omega) (by omega) (by omega)
  have W6 : Hid (PadIs (s % 60) 2 (wideS (s % 60) 2)) := pad_is _ _ (by omega) (by omega) (by omega) (by omega)
  have z1 := wideS_le y 4 (by omega) (by omega) (by omega) (by omega)
  have z2 := wideS_le m 2 (by omega) (by omega) (by omega) (by omega)
  have z3 := wideS_le d 2 (by omega) (by omega) (by omega) (by omega)
  have z4 := wideS_le (s / 3600) 2 (by omega) (by omega) (by omega) (by omega)
  have z5 := wideS_le (s / 60 % 60) 2 (by omega) (by omega) (by omega) (by omega)
  have z6 := wideS_le (s % 60) 2 (by omega) (by omega) (by omega) (by omega)
  unfold rfcV
  generalize wideS y 4 = S1 at *
  generalize wideS m 2 = S2 at *
  generalize wideS d 2 = S3 at *
  generalize wideS (s / 3600) 2 = S4 at *
  generalize wideS (s / 60 % 60) 2 = S5 at *
  generalize wideS (s % 60) 2 = S6 at *
  clear s0 s1 y0 y1 m0 m1 d0 d1 hmd t0 t1
  go_enter Tryd.func20, Tryd.ntmps20
  go_wp2_with fail
  refine (HC.out _).mono ?_; rintro e w1 ⟨rfl, hw⟩; obtain rfl : _ = w1 := hw
  go_wp2_with fail
  refine (W1.out.at_ _).mono ?_; rintro e w1 ⟨rfl, hw1⟩; (first | replace hW := nextB hW hw1 | replace hW := nextA hW hw1 | replace hW := nextB hW.drew hw1 | replace hW := nextAA hW hw1 | replace hW := nextAD hW hw1); clear hw1
  go_wp2_with fail
  refine (W2.out.at_ _).mono ?_; rintro e w1 ⟨rfl, hw1⟩; (first | replace hW := nextB hW hw1 | replace hW := nextA hW hw1 | replace hW := nextB hW.drew hw1 | replace hW := nextAA hW hw1 | replace hW := nextAD hW hw1); clear hw1
  go_wp2_with fail
  refine (W3.out.at_ _).mono ?_; rintro e w1 ⟨rfl, hw1⟩; (first | replace hW := nextB hW hw1 | replace hW := nextA hW hw1 | replace hW := nextB hW.drew hw1 | replace hW := nextAA hW hw1 | replace hW := nextAD hW hw1); clear hw1
  go_wp2_with fail
  refine (W4.out.at_ _).mono ?_; rintro e w1 ⟨rfl, hw1⟩; (first | replace hW := nextB hW hw1 | replace hW := nextA hW hw1 | replace hW := nextB hW.drew hw1 | replace hW := nextAA hW hw1 | replace hW := nextAD hW hw1); clear hw1
  go_wp2_with fail
  refine (W5.out.at_ _).mono ?_; rintro e w1 ⟨rfl, hw1⟩; (first | replace hW := nextB hW hw1 | replace hW := nextA hW hw1 | replace hW := nextB hW.drew hw1 | replace hW := nextAA hW hw1 | replace hW := nextAD hW hw1); clear hw1
  go_wp2_with fail
  refine (W6.out.at_ _).mono ?_; rintro e w1 ⟨rfl, hw1⟩; (first | replace hW := nextB hW hw1 | replace hW := nextA hW hw1 | replace hW := nextB hW.drew hw1 | replace hW := nextAA hW hw1 | replace hW := nextAD hW hw1); clear hw1
  go_wp2_with fail
  go_ret
  exact ⟨rfl, hW⟩
set_option maxRecDepth 100000 in
set_option maxHeartbeats 400000 in
theorem rImap_any (n : Int) (w : World) (h0 : -9223372036854775808 ≤ n) (h1 : n ≤ 9223372036854775807) : Calls Tryd.prog 18 #[.int .i64 n] w (StrBelow (imapS n) w) := by
  have hW := Below.refl w.heap.size w
  obtain ⟨s0, s1⟩ := secs_le n
  have HC : Hid (RCiv6Is n (civ (secs n / 86400)).1 (civ (secs n / 86400)).2.1 (civ (secs n / 86400)).2.2 (secs n % 86400)) := fun w => rCivil_any n w h0 h1
  obtain ⟨y0, y1⟩ := civ_year (secs n / 86400) (by omega) (by omega)
  obtain ⟨⟨m0, m1, d0, d1⟩, _⟩ := civ_valid (secs n / 86400) (by omega)
  have hmd := mdays_le (civ (secs n / 86400)).1 (civ (secs n / 86400)).2.1
  have t0 : 0 ≤ secs n % 86400 ∧ secs n % 86400 < 86400 := by omega
  unfold imapS
  generalize (civ (secs n / 86400)).1 = y at *
  generalize (civ (secs n / 86400)).2.1 = m at *
  generalize (civ (secs n / 86400)).2.2 = d at *
  generalize secs n % 86400 = s at *
  generalize mdays y m = L at *
  obtain ⟨t0, t1⟩ := t0
  have W1 : Hid (PadIs y 4 (wideS y 4)) := pad_is _ _ (by omega) (by omega) (by omega) (by omega)
  have W4 : Hid (PadIs (s / 3600) 2 (wideS (s / 3600) 2)) := pad_is _ _ (by omega) (by omega) (by omega) (by omega)
  have W5 : Hid (PadIs (s / 60 % 60) 2 (wideS (s / 60 % 60) 2)) := pad_is _ _ (by omega) (by omega) (by omega) (by omega)
  have W6 : Hid (PadIs (s % 60) 2 (wideS (s % 60) 2)) := pad_is _ _ (by omega) (by omega) (by omega) (by omega)
  have W3 : Hid (RDigIs d (digS d)) := fun w => rdigits_any d.toNat d w (by omega) (by omega)
  have W2 : Hid (RMonIs m (monthsS.extract (3 * m - 3).toNat (3 * m).toNat)) := fun w => rmonth_any m w m0 m1
  have z1 := wideS_four_size y (by omega) (by omega)
  have z3 : (d < 10 → (digS d).size = 1) ∧ (10 ≤ d → (digS d).size = 2) := ⟨fun h => by rw [digS_one d (by omega) h, strOfNums_size]; rfl, fun h => by rw [digS_two d h (by omega), strOfNums_size]; rfl⟩
  have z4 := wideS_two_size (s / 3600) (by omega) (by omega)
  have z5 := wideS_two_size (s / 60 % 60) (by omega) (by omega)
  have z6 := wideS_two_size (s % 60) (by omega) (by omega)
  have z2 : (monthsS.extract (3 * m - 3).toNat (3 * m).toNat).size = 3 := by rw [ByteArray.size_extract]; show min (3 * m).toNat 36 - _ = 3; omega
  unfold imapV dayS
  generalize monthsS.extract (3 * m - 3).toNat (3 * m).toNat = S2 at *
  generalize wideS y 4 = S1 at *
  generalize wideS (s / 3600) 2 = S4 at *
  generalize wideS (s / 60 % 60) 2 = S5 at *
  generalize wideS (s % 60) 2 = S6 at *
  generalize digS d = S3 at *
  clear s0 s1 y0 y1 d0 m0 m1 d1 hmd t0 t1
  by_cases hd : d < 10
  · rw [if_pos hd]
    have hd' : decide (d < 10) = true := by simpa using hd
    replace z3 := z3.1 hd
    go_enter Tryd.func18, Tryd.ntmps18
    go_wp2_with fail
    refine (HC.out _).mono ?_; rintro e w1 ⟨rfl, hw⟩; obtain rfl : _ = w1 := hw
    go_wp2_with fail
    refine (W3.out _).mono ?_; rintro e w1 ⟨rfl, hw1⟩; (first | replace hW := nextB hW hw1 | replace hW := nextA hW hw1 | replace hW := nextB hW.drew hw1 | replace hW := nextAA hW hw1 | replace hW := nextAD hW hw1); clear hw1
    go_wp2_with fail
    refine (W2.out _).mono ?_; rintro e w1 ⟨rfl, hw⟩; obtain rfl : _ = w1 := hw
    go_wp2_with fail
    refine (W1.out.at_ _).mono ?_; rintro e w1 ⟨rfl, hw1⟩; (first | replace hW := nextB hW hw1 | replace hW := nextA hW hw1 | replace hW := nextB hW.drew hw1 | replace hW := nextAA hW hw1 | replace hW := nextAD hW hw1); clear hw1
    go_wp2_with fail
    refine (W4.out.at_ _).mono ?_; rintro e w1 ⟨rfl, hw1⟩; (first | replace hW := nextB hW hw1 | replace hW := nextA hW hw1 | replace hW := nextB hW.drew hw1 | replace hW := nextAA hW hw1 | replace hW := nextAD hW hw1); clear hw1
    go_wp2_with fail
    refine (W5.out.at_ _).mono ?_; rintro e w1 ⟨rfl, hw1⟩; (first | replace hW := nextB hW hw1 | replace hW := nextA hW hw1 | replace hW := nextB hW.drew hw1 | replace hW := nextAA hW hw1 | replace hW := nextAD hW hw1); clear hw1
    go_wp2_with fail
    refine (W6.out.at_ _).mono ?_; rintro e w1 ⟨rfl, hw1⟩; (first | replace hW := nextB hW hw1 | replace hW := nextA hW hw1 | replace hW := nextB hW.drew hw1 | replace hW := nextAA hW hw1 | replace hW := nextAD hW hw1); clear hw1
    go_wp2_with fail
    go_ret
    exact ⟨rfl, hW⟩
  · rw [if_neg hd]
    have hd' : decide (d < 10) = false := by simpa using hd
    replace z3 := z3.2 (by omega)
    go_enter Tryd.func18, Tryd.ntmps18
    go_wp2_with fail
    refine (HC.out _).mono ?_; rintro e w1 ⟨rfl, hw⟩; obtain rfl : _ = w1 := hw
    go_wp2_with fail
    refine (W3.out _).mono ?_; rintro e w1 ⟨rfl, hw1⟩; (first | replace hW := nextB hW hw1 | replace hW := nextA hW hw1 | replace hW := nextB hW.drew hw1 | replace hW := nextAA hW hw1 | replace hW := nextAD hW hw1); clear hw1
    go_wp2_with fail
    refine (W2.out _).mono ?_; rintro e w1 ⟨rfl, hw⟩; obtain rfl : _ = w1 := hw
    go_wp2_with fail
    refine (W1.out.at_ _).mono ?_; rintro e w1 ⟨rfl, hw1⟩; (first | replace hW := nextB hW hw1 | replace hW := nextA hW hw1 | replace hW := nextB hW.drew hw1 | replace hW := nextAA hW hw1 | replace hW := nextAD hW hw1); clear hw1
    go_wp2_with fail
    refine (W4.out.at_ _).mono ?_; rintro e w1 ⟨rfl, hw1⟩; (first | replace hW := nextB hW hw1 | replace hW := nextA hW hw1 | replace hW := nextB hW.drew hw1 | replace hW := nextAA hW hw1 | replace hW := nextAD hW hw1); clear hw1
    go_wp2_with fail
    refine (W5.out.at_ _).mono ?_; rintro e w1 ⟨rfl, hw1⟩; (first | replace hW := nextB hW hw1 | replace hW := nextA hW hw1 | replace hW := nextB hW.drew hw1 | replace hW := nextAA hW hw1 | replace hW := nextAD hW hw1); clear hw1
    go_wp2_with fail
    refine (W6.out.at_ _).mono ?_; rintro e w1 ⟨rfl, hw1⟩; (first | replace hW := nextB hW hw1 | replace hW := nextA hW hw1 | replace hW := nextB hW.drew hw1 | replace hW := nextAA hW hw1 | replace hW := nextAD hW hw1); clear hw1
    go_wp2_with fail
    go_ret
    exact ⟨rfl, hW⟩
set_option maxRecDepth 100000 in
set_option maxHeartbeats 1000000 in
theorem tells_walk (n : Int) (w0 : (Lit.int .i64 n).wf = true) (w : World) (hT : TabOK w) : Calls Tryd.prog 5 #[.int .i64 n] w fun e w' => e = .returned (.bool true) ∧ Below w.heap.size w w' := by
  obtain ⟨a0, a1⟩ : -9223372036854775808 ≤ n ∧ n ≤ 9223372036854775807 := by
    simp [Lit.wf, IntKind.min, IntKind.max, IntKind.signed, IntKind.bits] at w0; omega
  clear w0
  have hW := Below.refl w.heap.size w
  have H1 : Hid (Civ6Is n (civ (secs n / 86400)).1 (civ (secs n / 86400)).2.1 (civ (secs n / 86400)).2.2 (secs n % 86400)) := fun w => Civil_any n w a0 a1
  have H2 : Hid (RCiv6Is n (civ (secs n / 86400)).1 (civ (secs n / 86400)).2.1 (civ (secs n / 86400)).2.2 (secs n % 86400)) := fun w => rCivil_any n w a0 a1
  have H3 : Hid (StrIs 13 n (imapS n)) := fun w hT => Imap_any n w a0 a1 hT
  have H4 : Hid (StrIs 18 n (imapS n)) := fun w _ => rImap_any n w a0 a1
  have H5 : Hid (StrIs 19 n (rfcS n)) := fun w hT => Rfc_any n w a0 a1 hT
  have H6 : Hid (StrIs 20 n (rfcS n)) := fun w _ => rRfc_any n w a0 a1
  generalize (civ (secs n / 86400)).1 = y at *
  generalize (civ (secs n / 86400)).2.1 = m at *
  generalize (civ (secs n / 86400)).2.2 = d at *
  generalize secs n % 86400 = s at *
  generalize imapS n = S at *
  generalize rfcS n = T at *
  clear a0 a1
  go_enter Tryd.func5, Tryd.ntmps5
  go_wp2_with fail
  refine (H1.out _).mono ?_; rintro e w1 ⟨rfl, hw⟩; obtain rfl : _ = w1 := hw
  go_wp2_with fail
  refine (H2.out _).mono ?_; rintro e w1 ⟨rfl, hw⟩; obtain rfl : _ = w1 := hw
  go_wp2_with fail
  refine (H3.out _ (hT.below hW)).mono ?_; rintro e w1 ⟨rfl, hw1⟩; (first | replace hW := nextB hW hw1 | replace hW := nextA hW hw1 | replace hW := nextB hW.drew hw1 | replace hW := nextAA hW hw1 | replace hW := nextAD hW hw1); clear hw1
  go_wp2_with fail
  refine (H4.out _ (hT.below hW)).mono ?_; rintro e w1 ⟨rfl, hw1⟩; (first | replace hW := nextB hW hw1 | replace hW := nextA hW hw1 | replace hW := nextB hW.drew hw1 | replace hW := nextAA hW hw1 | replace hW := nextAD hW hw1); clear hw1
  go_wp2_with fail
  refine (H5.out _ (hT.below hW)).mono ?_; rintro e w1 ⟨rfl, hw1⟩; (first | replace hW := nextB hW hw1 | replace hW := nextA hW hw1 | replace hW := nextB hW.drew hw1 | replace hW := nextAA hW hw1 | replace hW := nextAD hW hw1); clear hw1
  go_wp2_with fail
  refine (H6.out _ (hT.below hW)).mono ?_; rintro e w1 ⟨rfl, hw1⟩; (first | replace hW := nextB hW hw1 | replace hW := nextA hW hw1 | replace hW := nextB hW.drew hw1 | replace hW := nextAA hW hw1 | replace hW := nextAD hW hw1); clear hw1
  go_wp2_with fail
  refine (awake_any _ (hT.below hW)).mono ?_; rintro e w1 ⟨rfl, hw1⟩; (first | replace hW := nextB hW hw1 | replace hW := nextA hW hw1 | replace hW := nextB hW.drew hw1 | replace hW := nextAA hW hw1 | replace hW := nextAD hW hw1); clear hw1
  go_wp2_with fail
  go_ret
  exact ⟨rfl, hW⟩
end Go.Proofs.YtfhdnppcookcoaaDoor
