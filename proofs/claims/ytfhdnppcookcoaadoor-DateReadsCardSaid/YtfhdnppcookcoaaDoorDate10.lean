/- The walk of Imap. -/
import Derived.Test.YtfhdnppcookcoaaDoorDate9
import Derived.Test.YtfhdnppcookcoaaDoorDateW
import Derived.Deep.RegionHeld3
namespace Go.Proofs.YtfhdnppcookcoaaDoor
open Go.RowKit Go.PlainAid
set_option linter.unusedVariables false
set_option linter.unusedSimpArgs false
set_option maxRecDepth 100000 in
set_option maxHeartbeats 400000 in
theorem Imap_any (n : Int) (w : World) (h0 : -9223372036854775808 ≤ n) (h1 : n ≤ 9223372036854775807) (hT : TabOK w) : Calls Tryd.prog 13 #[.int .i64 n] w (StrBelow (imapS n) w) := by
  have hW := Below.refl w.heap.size w
  obtain ⟨s0, s1⟩ := secs_le n
  have HC : Hid (Civ6Is n (civ (secs n / 86400)).1 (civ (secs n / 86400)).2.1 (civ (secs n / 86400)).2.2 (secs n % 86400)) := fun w => Civil_any n w h0 h1
  obtain ⟨y0, y1⟩ := civ_year (secs n / 86400) (by omega) (by omega)
  obtain ⟨⟨m0, m1, d0, d1⟩, _⟩ := civ_valid (secs n / 86400) (by omega)
  have hmd := mdays_le (civ (secs n / 86400)).1 (civ (secs n / 86400)).2.1
  have t0 : 0 ≤ secs n % 86400 ∧ secs n % 86400 < 86400 := by omega
  unfold imapS
  generalize (civ (secs n / 86400)).1 = y at *
  generalize (civ (secs n / 86400)).2.1 = m at *
  generalize (civ (secs n / 86400)).2.2 = d at *
  generalize secs n % 86400 = s at *
  generalize mdays y m = L at *
  obtain ⟨t0, t1⟩ := t0
  have W1 : Hid (WideIs y 4 (wideS y 4)) := wide_is _ _ (by omega) (by omega) (by omega) (by omega)
  have W4 : Hid (WideIs (s / 3600) 2 (wideS (s / 3600) 2)) := wide_is _ _ (by omega) (by omega) (by omega) (by omega)
  have W5 : Hid (WideIs (s / 60 % 60) 2 (wideS (s / 60 % 60) 2)) := wide_is _ _ (by omega) (by omega) (by omega) (by omega)
  have W6 : Hid (WideIs (s % 60) 2 (wideS (s % 60) 2)) := wide_is _ _ (by omega) (by omega) (by omega) (by omega)
  have W3 : Hid (DigIs d (digS d)) := fun w hT => digits_any d w (by omega) (by omega) hT
  have z1 := wideS_four_size y (by omega) (by omega)
  have z3 : (d < 10 → (digS d).size = 1) ∧ (10 ≤ d → (digS d).size = 2) := ⟨fun h => by rw [digS_one d (by omega) h, strOfNums_size]; rfl, fun h => by rw [digS_two d h (by omega), strOfNums_size]; rfl⟩
  have z4 := wideS_two_size (s / 3600) (by omega) (by omega)
  have z5 := wideS_two_size (s / 60 % 60) (by omega) (by omega)
  have z6 := wideS_two_size (s % 60) (by omega) (by omega)
  obtain ⟨k, rfl⟩ := Int.eq_ofNat_of_zero_le (show 0 ≤ m by omega)
  have g3 : (3 * (k : Int) - 3).toNat = 3 * k - 3 := by omega
  have g4 : (3 * (k : Int)).toNat = 3 * k := by omega
  have g5 : 0 ≤ 3 * (k : Int) - 3 := by omega
  have g6 : 3 * (k : Int) ≤ 36 := by omega
  have g7 : 3 * (k : Int) - 3 ≤ 3 * (k : Int) := by omega
  unfold imapV dayS
  rw [g3, g4]
  have z2 : min (3 * k) 36 - (3 * k - 3) = 3 := by omega
  have g8 : 0 ≤ 3 * (k : Int) := by omega
  have g9 : 3 ≤ 3 * (k : Int) := by omega
  have g1 : IntKind.i64.wrap (3 * (k : Int)) = 3 * (k : Int) := IntWalk.i64_in _ (by omega)
  have g2 : IntKind.i64.wrap (3 * (k : Int) - 3) = 3 * (k : Int) - 3 := IntWalk.i64_in _ (by omega)
  generalize wideS y 4 = S1 at *
  generalize wideS (s / 3600) 2 = S4 at *
  generalize wideS (s / 60 % 60) 2 = S5 at *
  generalize wideS (s % 60) 2 = S6 at *
  generalize digS d = S3 at *
  clear s0 s1 y0 y1 d0 m0 m1 d1 hmd t0 t1
  by_cases hd : d < 10
  · rw [if_pos hd]
    have hd' : decide (d < 10) = true := by simpa using hd
    replace z3 := z3.1 hd
    go_enter Tryd.func13, Tryd.ntmps13
    go_wp2_with fail
    refine (HC.out _).mono ?_; rintro e w1 ⟨rfl, hw⟩; obtain rfl : _ = w1 := hw
    go_wp2_with fail
    refine (W3.out _ (hT.below hW)).mono ?_; rintro e w1 ⟨rfl, hw1⟩; (first | replace hW := nextB hW hw1 | replace hW := nextA hW hw1 | replace hW := nextB hW.drew hw1 | replace hW := nextAA hW hw1 | replace hW := nextAD hW hw1); clear hw1
    go_wp2_with fail
    go_region_held3 (fun _ => True) (trivial) (first | (go_at_call 30; (with_reducible first | refine (W1.out.at_ (hT.below hW)).mono ?_ | refine (W1.out.at_ (hT.below hW).drew).mono ?_); rintro e w1 ⟨rfl, hw1⟩; (first | replace hW := nextB hW hw1 | replace hW := nextA hW hw1 | replace hW := nextB hW.drew hw1 | replace hW := nextAA hW hw1 | replace hW := nextAD hW hw1); clear hw1) | (go_at_call 30; (with_reducible first | refine (W4.out.at_ (hT.below hW)).mono ?_ | refine (W4.out.at_ (hT.below hW).drew).mono ?_); rintro e w1 ⟨rfl, hw1⟩; (first | replace hW := nextB hW hw1 | replace hW := nextA hW hw1 | replace hW := nextB hW.drew hw1 | replace hW := nextAA hW hw1 | replace hW := nextAD hW hw1); clear hw1) | (go_at_call 30; (with_reducible first | refine (W5.out.at_ (hT.below hW)).mono ?_ | refine (W5.out.at_ (hT.below hW).drew).mono ?_); rintro e w1 ⟨rfl, hw1⟩; (first | replace hW := nextB hW hw1 | replace hW := nextA hW hw1 | replace hW := nextB hW.drew hw1 | replace hW := nextAA hW hw1 | replace hW := nextAD hW hw1); clear hw1) | (go_at_call 30; (with_reducible first | refine (W6.out.at_ (hT.below hW)).mono ?_ | refine (W6.out.at_ (hT.below hW).drew).mono ?_); rintro e w1 ⟨rfl, hw1⟩; (first | replace hW := nextB hW hw1 | replace hW := nextA hW hw1 | replace hW := nextB hW.drew hw1 | replace hW := nextAA hW hw1 | replace hW := nextAD hW hw1); clear hw1))
    all_goals
      go_wp2_with fail
      go_ret
      exact ⟨rfl, hW⟩
  · rw [if_neg hd]
    have hd' : decide (d < 10) = false := by simpa using hd
    replace z3 := z3.2 (by omega)
    go_enter Tryd.func13, Tryd.ntmps13
    go_wp2_with fail
    refine (HC.out _).mono ?_; rintro e w1 ⟨rfl, hw⟩; obtain rfl : _ = w1 := hw
    go_wp2_with fail
    refine (W3.out _ (hT.below hW)).mono ?_; rintro e w1 ⟨rfl, hw1⟩; (first | replace hW := nextB hW hw1 | replace hW := nextA hW hw1 | replace hW := nextB hW.drew hw1 | replace hW := nextAA hW hw1 | replace hW := nextAD hW hw1); clear hw1
    go_wp2_with fail
    go_region_held3 (fun _ => True) (trivial) (first | (go_at_call 30; (with_reducible first | refine (W1.out.at_ (hT.below hW)).mono ?_ | refine (W1.out.at_ (hT.below hW).drew).mono ?_); rintro e w1 ⟨rfl, hw1⟩; (first | replace hW := nextB hW hw1 | replace hW := nextA hW hw1 | replace hW := nextB hW.drew hw1 | replace hW := nextAA hW hw1 | replace hW := nextAD hW hw1); clear hw1) | (go_at_call 30; (with_reducible first | refine (W4.out.at_ (hT.below hW)).mono ?_ | refine (W4.out.at_ (hT.below hW).drew).mono ?_); rintro e w1 ⟨rfl, hw1⟩; (first | replace hW := nextB hW hw1 | replace hW := nextA hW hw1 | replace hW := nextB hW.drew hw1 | replace hW := nextAA hW hw1 | replace hW := nextAD hW hw1); clear hw1) | (go_at_call 30; (with_reducible first | refine (W5.out.at_ (hT.below hW)).mono ?_ | refine (W5.out.at_ (hT.below hW).drew).mono ?_); rintro e w1 ⟨rfl, hw1⟩; (first | replace hW := nextB hW hw1 | replace hW := nextA hW hw1 | replace hW := nextB hW.drew hw1 | replace hW := nextAA hW hw1 | replace hW := nextAD hW hw1); clear hw1) | (go_at_call 30; (with_reducible first | refine (W6.out.at_ (hT.below hW)).mono ?_ | refine (W6.out.at_ (hT.below hW).drew).mono ?_); rintro e w1 ⟨rfl, hw1⟩; (first | replace hW := nextB hW hw1 | replace hW := nextA hW hw1 | replace hW := nextB hW.drew hw1 | replace hW := nextAA hW hw1 | replace hW := nextAD hW hw1); clear hw1))
    all_goals
      go_wp2_with fail
      go_ret
      exact ⟨rfl, hW⟩
end Go.Proofs.YtfhdnppcookcoaaDoor
