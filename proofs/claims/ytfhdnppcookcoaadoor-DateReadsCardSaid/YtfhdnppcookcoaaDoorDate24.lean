/- The walk of ReadRfc. -/
import Derived.Test.YtfhdnppcookcoaaDoorDate23
import Derived.Test.YtfhdnppcookcoaaDoorDate18
namespace Go.Proofs.YtfhdnppcookcoaaDoor
open Go.RowKit Go.PlainAid
set_option linter.unusedVariables false
set_option linter.unusedSimpArgs false
def rfcRead (a b c e : Bool) (y m d L n : Int) (same : Bool) : Int × Int :=
  if a = true ∧ b = true ∧ c = true ∧ e = true ∧ 1970 ≤ y ∧ 1 ≤ m ∧ m ≤ 12 ∧ 1 ≤ d ∧ d ≤ L ∧ same = true then (n, 0) else (0, 3)
def readRfcV (s : ByteArray) : Int × Int :=
  if s.size = 20 then
    rfcRead (dnumV (s.extract 0 4)).2 (dnumV (s.extract 5 7)).2 (dnumV (s.extract 8 10)).2 (clockV (s.extract 11 19)).2 (dnumV (s.extract 0 4)).1 (dnumV (s.extract 5 7)).1 (dnumV (s.extract 8 10)).1 (mdays (dnumV (s.extract 0 4)).1 (dnumV (s.extract 5 7)).1)
      (dayNum (dnumV (s.extract 0 4)).1 (dnumV (s.extract 5 7)).1 (dnumV (s.extract 8 10)).1 * 86400 + (clockV (s.extract 11 19)).1)
      ((rfcS (dayNum (dnumV (s.extract 0 4)).1 (dnumV (s.extract 5 7)).1 (dnumV (s.extract 8 10)).1 * 86400 + (clockV (s.extract 11 19)).1)).toList == s.toList)
  else (0, 3)
theorem rfcRead_cases (a b c e : Bool) (y m d L n : Int) (same : Bool) (v : Int × Int) (hv : v = rfcRead a b c e y m d L n same) :
    (a = false ∧ v = (0, 3)) ∨ (a = true ∧ b = false ∧ v = (0, 3)) ∨ (a = true ∧ b = true ∧ c = false ∧ v = (0, 3)) ∨ (a = true ∧ b = true ∧ c = true ∧ e = false ∧ v = (0, 3)) ∨
    (a = true ∧ b = true ∧ c = true ∧ e = true ∧ y < 1970 ∧ v = (0, 3)) ∨ (a = true ∧ b = true ∧ c = true ∧ e = true ∧ 1970 ≤ y ∧ m < 1 ∧ v = (0, 3)) ∨
    (a = true ∧ b = true ∧ c = true ∧ e = true ∧ 1970 ≤ y ∧ 1 ≤ m ∧ 12 < m ∧ v = (0, 3)) ∨ (a = true ∧ b = true ∧ c = true ∧ e = true ∧ 1970 ≤ y ∧ 1 ≤ m ∧ m ≤ 12 ∧ d < 1 ∧ v = (0, 3)) ∨
    (a = true ∧ b = true ∧ c = true ∧ e = true ∧ 1970 ≤ y ∧ 1 ≤ m ∧ m ≤ 12 ∧ 1 ≤ d ∧ L < d ∧ v = (0, 3)) ∨
    (a = true ∧ b = true ∧ c = true ∧ e = true ∧ 1970 ≤ y ∧ 1 ≤ m ∧ m ≤ 12 ∧ 1 ≤ d ∧ d ≤ L ∧ same = false ∧ v = (0, 3)) ∨
    (a = true ∧ b = true ∧ c = true ∧ e = true ∧ 1970 ≤ y ∧ 1 ≤ m ∧ m ≤ 12 ∧ 1 ≤ d ∧ d ≤ L ∧ same = true ∧ v = (n, 0)) := by
  subst hv
  unfold rfcRead
  cases a with
  | false => exact .inl ⟨rfl, if_neg (by simp)⟩
  | true =>
  refine .inr ?_
  cases b with
  | false => exact .inl ⟨rfl, rfl, if_neg (by simp)⟩
  | true =>
  refine .inr ?_
  cases c with
  | false => exact .inl ⟨rfl, rfl, rfl, if_neg (by simp)⟩
  | true =>
  refine .inr ?_
  cases e with
  | false => exact .inl ⟨rfl, rfl, rfl, rfl, if_neg (by simp)⟩
  | true =>
  refine .inr ?_
  by_cases h1 : y < 1970
  · exact .inl ⟨rfl, rfl, rfl, rfl, h1, if_neg (by omega)⟩
  refine .inr ?_
  by_cases h2 : m < 1
  · exact .inl ⟨rfl, rfl, rfl, rfl, by omega, h2, if_neg (by omega)⟩
  refine .inr ?_
  by_cases h3 : 12 < m
  · exact .inl ⟨rfl, rfl, rfl, rfl, by omega, by omega, h3, if_neg (by omega)⟩
  refine .inr ?_
  by_cases h4 : d < 1
  · exact .inl ⟨rfl, rfl, rfl, rfl, by omega, by omega, by omega, h4, if_neg (by omega)⟩
  refine .inr ?_
  by_cases h5 : L < d
  · exact .inl ⟨rfl, rfl, rfl, rfl, by omega, by omega, by omega, by omega, h5, if_neg (by omega)⟩
  refine .inr ?_
  cases same with
  | false => exact .inl ⟨rfl, rfl, rfl, rfl, by omega, by omega, by omega, by omega, by omega, rfl, if_neg (by simp)⟩
  | true => exact .inr ⟨rfl, rfl, rfl, rfl, by omega, by omega, by omega, by omega, by omega, rfl, if_pos ⟨rfl, rfl, rfl, rfl, by omega, by omega, by omega, by omega, by omega, rfl⟩⟩
def ClockIs (s : ByteArray) (t : Int) (e : Bool) : Prop := ∀ w, Calls Tryd.prog 32 #[.string s] w (Num2End (t, e) w)
def LongIs (y m L : Int) : Prop := ∀ w, Calls Tryd.prog 42 #[.int .i64 y, .int .i64 m] w fun e w' => e = .returned (.int .i64 L) ∧ w = w'
def DaysIs (y m d N : Int) : Prop := ∀ w, Calls Tryd.prog 43 #[.int .i64 y, .int .i64 m, .int .i64 d] w fun e w' => e = .returned (.int .i64 N) ∧ w = w'
set_option maxHeartbeats 2000000 in
set_option maxRecDepth 100000 in
theorem readRfc_any (s : ByteArray) (w : World) (hs : s.size ≤ 1000) (hT : TabOK w) : Calls Tryd.prog 22 #[.string s] w (Read2End (readRfcV s) w) := by
  have hW := Below.refl w.heap.size w
  by_cases h20 : s.size = 20
  · have f1 := ext_le s 0 4 (by omega)
    have f2 := ext_le s 5 7 (by omega)
    have f3 := ext_le s 8 10 (by omega)
    have f4 := ext_le s 11 19 (by omega)
    have N1 : Hid (NumIs (s.extract 0 4) (dnumV (s.extract 0 4)).1 (dnumV (s.extract 0 4)).2) := num_is _ (by omega)
    have N2 : Hid (NumIs (s.extract 5 7) (dnumV (s.extract 5 7)).1 (dnumV (s.extract 5 7)).2) := num_is _ (by omega)
    have N3 : Hid (NumIs (s.extract 8 10) (dnumV (s.extract 8 10)).1 (dnumV (s.extract 8 10)).2) := num_is _ (by omega)
    have N4 : Hid (ClockIs (s.extract 11 19) (clockV (s.extract 11 19)).1 (clockV (s.extract 11 19)).2) := fun w => clock_any _ w (by omega)
    have z1 := dnum_small (s.extract 0 4) (by omega)
    have z1b := dnum_four (s.extract 0 4) (by omega)
    have z2 := dnum_small (s.extract 5 7) (by omega)
    have z3 := dnum_small (s.extract 8 10) (by omega)
    have z3b := dnum_four (s.extract 8 10) (by omega)
    have z4 := clockV_le (s.extract 11 19)
    have hv : readRfcV s = _ := if_pos h20
    rw [hv]
    clear hv f1 f2 f3 f4
    generalize dnumV (s.extract 0 4) = q1 at *
    generalize dnumV (s.extract 5 7) = q2 at *
    generalize dnumV (s.extract 8 10) = q3 at *
    generalize clockV (s.extract 11 19) = q4 at *
    obtain ⟨y, a⟩ := q1
    obtain ⟨m, b⟩ := q2
    obtain ⟨d, c⟩ := q3
    obtain ⟨t, e⟩ := q4
    dsimp only at N1 N2 N3 N4 z1 z1b z2 z3 z3b z4 ⊢
    obtain ⟨z1, z1'⟩ := z1
    obtain ⟨z2, z2'⟩ := z2
    obtain ⟨z3, z3'⟩ := z3
    obtain ⟨z4, z4'⟩ := z4
    generalize hv : rfcRead a b c e y m d (mdays y m) (dayNum y m d * 86400 + t) ((rfcS (dayNum y m d * 86400 + t)).toList == s.toList) = v
    have hcs := rfcRead_cases a b c e y m d (mdays y m) (dayNum y m d * 86400 + t) ((rfcS (dayNum y m d * 86400 + t)).toList == s.toList) v hv.symm
    clear hv
    have hL := mdays_le y m
    have N5 : Hid (1 ≤ m → m ≤ 12 → LongIs y m (mdays y m)) := fun h1 h2 w => long_any y m w z1 (by omega) h1 h2
    have N6 : Hid (1 ≤ m → m ≤ 12 → DaysIs y m d (dayNum y m d)) := fun h1 h2 w => by rw [← daysV_eq y m d z1 h1 h2]; exact days_any y m d w z1 (by omega) h1 h2 z3 (by omega)
    have hN : 1 ≤ m → m ≤ 12 → -10000000 ≤ dayNum y m d ∧ dayNum y m d ≤ 10000000 := fun h1 h2 => by
      rw [← daysV_eq y m d z1 h1 h2]; unfold daysV; dsimp only; split <;> omega
    have N7 : Hid (-10000000 ≤ dayNum y m d ∧ dayNum y m d ≤ 10000000 → StrIs 19 (dayNum y m d * 86400 + t) (rfcS (dayNum y m d * 86400 + t))) := fun h w hT => Rfc_any _ w (by omega) (by omega) hT
    have HN := Lib.hid hN
    clear hN
    generalize rfcS (dayNum y m d * 86400 + t) = R at *
    generalize mdays y m = L at *
    generalize dayNum y m d = D at *
    rcases hcs with ⟨rfl, rfl⟩ | ⟨rfl, rfl, rfl⟩ | ⟨rfl, rfl, rfl, rfl⟩ | ⟨rfl, rfl, rfl, rfl, rfl⟩ | ⟨rfl, rfl, rfl, rfl, k1, rfl⟩ | ⟨rfl, rfl, rfl, rfl, k1, k2, rfl⟩ | ⟨rfl, rfl, rfl, rfl, k1, k2, k3, rfl⟩ | ⟨rfl, rfl, rfl, rfl, k1, k2, k3, k4, rfl⟩ | ⟨rfl, rfl, rfl, rfl, k1, k2, k3, k4, k5, rfl⟩ | ⟨rfl, rfl, rfl, rfl, k1, k2, k3, k4, k5, k6, rfl⟩ | ⟨rfl, rfl, rfl, rfl, k1, k2, k3, k4, k5, k6, rfl⟩
    all_goals
      try (have hn0 : -10000000 ≤ D := by exact (HN.out (by omega) (by omega)).1)
      try (have hn1 : D ≤ 10000000 := by exact (HN.out (by omega) (by omega)).2)
      go_enter Tryd.func22, Tryd.ntmps22
      go_wp2_with fail
      refine (N1.out _).mono ?_; rintro e w1 ⟨rfl, hw⟩; obtain rfl : _ = w1 := hw
      go_wp2_with fail
      refine (N2.out _).mono ?_; rintro e w1 ⟨rfl, hw⟩; obtain rfl : _ = w1 := hw
      go_wp2_with fail
      refine (N3.out _).mono ?_; rintro e w1 ⟨rfl, hw⟩; obtain rfl : _ = w1 := hw
      go_wp2_with fail
      refine (N4.out _).mono ?_; rintro e w1 ⟨rfl, hw⟩; obtain rfl : _ = w1 := hw
      go_wp2_with (first | (go_at_call 42; refine (N5.out (by omega) (by omega) _).mono ?_; rintro e w1 ⟨rfl, hw⟩; obtain rfl : _ = w1 := hw) | (go_at_call 43; refine (N6.out (by omega) (by omega) _).mono ?_; rintro e w1 ⟨rfl, hw⟩; obtain rfl : _ = w1 := hw) | (go_at_call 19; refine ((N7.out ⟨by omega, by omega⟩).at_ (hT.below hW)).mono ?_; rintro e w1 ⟨rfl, hw1⟩; (first | replace hW := nextB hW hw1 | replace hW := nextA hW hw1 | replace hW := nextB hW.drew hw1 | replace hW := nextAA hW hw1 | replace hW := nextAD hW hw1); clear hw1))
      go_ret2
      exact ⟨rfl, hW⟩
  · rw [show readRfcV s = (0, 3) from if_neg h20]
    go_enter Tryd.func22, Tryd.ntmps22
    go_wp2_with fail
    go_ret2
    exact ⟨rfl, hW⟩
end Go.Proofs.YtfhdnppcookcoaaDoor
