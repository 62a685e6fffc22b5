/- The walks of Rfc and Imap. -/
import Derived.Test.YtfhdnppcookcoaaDoorDate2
import Derived.Test.YtfhdnppcookcoaaDoorDate3
import Derived.Deep.DeepCutAuto
namespace Go.Proofs.YtfhdnppcookcoaaDoor
open Go.RowKit Go.PlainAid
set_option linter.unusedVariables false
set_option linter.unusedSimpArgs false
theorem bef_nonneg (y : Int) : ∀ k, 0 ≤ bef y k
  | 0 => Int.le_refl _
  | k + 1 => by
    have := bef_nonneg y k
    have := mdays_le y (k + 1)
    simp only [bef]; omega
theorem bef_bound (y m : Int) (m0 : 1 ≤ m) (m1 : m ≤ 12) : 0 ≤ bef y (m - 1).toNat ∧ bef y (m - 1).toNat ≤ 335 ∧ bef y (m - 1).toNat + mdays y m ≤ 337 + febD y := by
  obtain ⟨b0, b1, b2, b3, b4, b5, b6, b7, b8, b9, b10, b11, b12⟩ := bef_vals y
  have hf : 28 ≤ febD y ∧ febD y ≤ 29 := by have := feb_cases y; omega
  have hc : m = 1 ∨ m = 2 ∨ m = 3 ∨ m = 4 ∨ m = 5 ∨ m = 6 ∨ m = 7 ∨ m = 8 ∨ m = 9 ∨ m = 10 ∨ m = 11 ∨ m = 12 := by omega
  obtain ⟨q1, q2, q3, q4, q5, q6, q7, q8, q9, q10, q11, q12⟩ := mdays_vals y
  rcases hc with rfl | rfl | rfl | rfl | rfl | rfl | rfl | rfl | rfl | rfl | rfl | rfl
  all_goals simp only [Int.reduceSub, Int.reduceToNat, b0, b1, b2, b3, b4, b5, b6, b7, b8, b9, b10, b11, b12, q1, q2, q3, q4, q5, q6, q7, q8, q9, q10, q11, q12]
  all_goals clear b0 b1 b2 b3 b4 b5 b6 b7 b8 b9 b10 b11 b12 q1 q2 q3 q4 q5 q6 q7 q8 q9 q10 q11 q12
  all_goals omega
theorem civ_year (n : Int) (h0 : 0 ≤ n) (h1 : n ≤ 2932896) : 1970 ≤ (civ n).1 ∧ (civ n).1 ≤ 9999 := by
  obtain ⟨⟨m0, m1, d0, d1⟩, hn⟩ := civ_valid n h0
  obtain ⟨y0, y1⟩ : 0 ≤ (civ n).1 ∧ (civ n).1 ≤ 100000 := by
    have := civ_parts n h0
    unfold civ
    split <;> (dsimp only; omega)
  generalize (civ n).1 = y at *
  generalize (civ n).2.1 = m at *
  generalize (civ n).2.2 = d at *
  have hf := feb_cases y
  have hm := mdays_le y m
  have hb := bef_bound y m m0 m1
  unfold dayNum at hn
  constructor
  · have hs := ahead_succ0 y y0
    have hv := ahead_val y y0
    omega
  · by_cases hy : y = 0
    · omega
    · have hv := ahead_val (y - 1) (by omega)
      rw [Int.sub_add_cancel] at hv
      omega
theorem wideS_le (n k : Int) (h0 : 0 ≤ n) (h1 : n ≤ 1000000) (k0 : 0 ≤ k) (k1 : k ≤ 10) : (wideS n k).size ≤ 31 := by
  have hsz := itoa_len n h0 (by omega)
  unfold wideS
  rw [ByteArray.size_append]
  have : (⟨(Lib.repeatL [48] (max 0 (k - ((digS n).size : Int))).toNat).toArray⟩ : ByteArray).size = (max 0 (k - ((digS n).size : Int))).toNat := by
    show (Lib.repeatL [48] _).toArray.size = _; simp [Lib.repeatL_length]
  rw [this]
  omega
def rfcV (y m d s : Int) : ByteArray := wideS y 4 ++ ⟨#[45]⟩ ++ wideS m 2 ++ ⟨#[45]⟩ ++ wideS d 2 ++ ⟨#[84]⟩ ++ wideS (s / 3600) 2 ++ ⟨#[58]⟩ ++ wideS (s / 60 % 60) 2 ++ ⟨#[58]⟩ ++ wideS (s % 60) 2 ++ ⟨#[90]⟩
def rfcS (n : Int) : ByteArray := rfcV (civ (secs n / 86400)).1 (civ (secs n / 86400)).2.1 (civ (secs n / 86400)).2.2 (secs n % 86400)
def dayS (d : Int) : ByteArray := if d < 10 then ⟨#[32]⟩ ++ digS d else digS d
def imapV (y m d s : Int) : ByteArray := dayS d ++ ⟨#[45]⟩ ++ monthsS.extract (3 * m - 3).toNat (3 * m).toNat ++ ⟨#[45]⟩ ++ wideS y 4 ++ ⟨#[32]⟩ ++ wideS (s / 3600) 2 ++ ⟨#[58]⟩ ++ wideS (s / 60 % 60) 2 ++ ⟨#[58]⟩ ++ wideS (s % 60) 2 ++ ⟨#[32, 43, 48, 48, 48, 48]⟩
def imapS (n : Int) : ByteArray := imapV (civ (secs n / 86400)).1 (civ (secs n / 86400)).2.1 (civ (secs n / 86400)).2.2 (secs n % 86400)
def WideIs (n k : Int) (S : ByteArray) : Prop := ∀ w, TabOK w → Calls Tryd.prog 30 #[.int .i64 n, .int .i64 k] w fun e w' => e = .returned (.string S) ∧ Below w.heap.size w w'
theorem wide_is (n k : Int) (h0 : 0 ≤ n) (h1 : n ≤ 1000000) (k0 : 0 ≤ k) (k1 : k ≤ 10) : WideIs n k (wideS n k) := fun w hT => wide_any n k w hT h0 h1 k0 k1
theorem WideIs.at_ {n k : Int} {S : ByteArray} (h : WideIs n k S) {w : World} (hT : TabOK w) : Calls Tryd.prog 30 #[.int .i64 n, .int .i64 k] w fun e w' => e = .returned (.string S) ∧ Below w.heap.size w w' := h w hT
def DigIs (n : Int) (S : ByteArray) : Prop := ∀ w, TabOK w → Calls Tryd.prog 29 #[.int .i64 n] w fun e w' => e = .returned (.string S) ∧ Below w.heap.size w w'
def Civ6Is (n y m d s : Int) : Prop := ∀ w, Calls Tryd.prog 11 #[.int .i64 n] w (Civ6End (y, m, d) s w)
def StrBelow (S : ByteArray) (w : World) (e : Ending) (w' : World) : Prop := e = .returned (.string S) ∧ Below w.heap.size w w'
set_option maxRecDepth 100000 in
set_option maxHeartbeats 1000000 in
theorem Rfc_any (n : Int) (w : World) (h0 : -9223372036854775808 ≤ n) (h1 : n ≤ 9223372036854775807) (hT : TabOK w) : Calls Tryd.prog 19 #[.int .i64 n] w (StrBelow (rfcS n) w) := by
  have hW := Below.refl w.heap.size w
  obtain ⟨s0, s1⟩ := secs_le n
  have HC : Hid (Civ6Is n (civ (secs n / 86400)).1 (civ (secs n / 86400)).2.1 (civ (secs n / 86400)).2.2 (secs n % 86400)) := fun w => Civil_any n w h0 h1
  obtain ⟨y0, y1⟩ := civ_year (secs n / 86400) (by omega) (by omega)
  obtain ⟨⟨m0, m1, d0, d1⟩, _⟩ := civ_valid (secs n / 86400) (by omega)
  have hmd := mdays_le (civ (secs n / 86400)).1 (civ (secs n / 86400)).2.1
  have t0 : 0 ≤ secs n % 86400 ∧ secs n % 86400 < 86400 := by omega
  unfold rfcS
  generalize (civ (secs n / 86400)).1 = y at *
  generalize (civ (secs n / 86400)).2.1 = m at *
  generalize (civ (secs n / 86400)).2.2 = d at *
  generalize secs n % 86400 = s at *
  generalize mdays y m = L at *
  obtain ⟨t0, t1⟩ := t0
  have W1 : Hid (WideIs y 4 (wideS y 4)) := wide_is _ _ (by omega) (by omega) (by omega) (by omega)
  have W2 : Hid (WideIs m 2 (wideS m 2)) := wide_is _ _ (by omega) (by omega) (by omega) (by omega)
  have W3 : Hid (WideIs d 2 (wideS d 2)) := wide_is _ _ (by omega) (by omega) (by omega) (by omega)
  have W4 : Hid (WideIs (s / 3600) 2 (wideS (s / 3600) 2)) := wide_is _ _ (by omega) (by omega) (by omega) (by omega)
  have W5 : Hid (WideIs (s / 60 % 60) 2 (wideS (s / 60 % 60) 2)) := wide_is _ _ (by omega) (by omega) (by omega) (by omega)
  have W6 : Hid (WideIs (s % 60) 2 (wideS (s % 60) 2)) := wide_is _ _ (by omega) (by omega) (by omega) (by omega)
  have z1 := wideS_le y 4 (by omega) (by omega) (by omega) (by omega)
  have z2 := wideS_le m 2 (by omega) (by omega) (by omega) (by omega)
  have z3 := wideS_le d 2 (by omega) (by omega) (by omega) (by omega)
  have z4 := wideS_le (s / 3600) 2 (by omega) (by omega) (by omega) (by omega)
  have z5 := wideS_le (s / 60 % 60) 2 (by omega) (by omega) (by omega) (by omega)
  have z6 := wideS_le (s % 60) 2 (by omega) (by omega) (by omega) (by omega)
  unfold rfcV
  generalize wideS y 4 = S1 at *
  generalize wideS m 2 = S2 at *
  generalize wideS d 2 = S3 at *
  generalize wideS (s / 3600) 2 = S4 at *
  generalize wideS (s / 60 % 60) 2 = S5 at *
  generalize wideS (s % 60) 2 = S6 at *
  clear s0 s1 y0 y1 m0 m1 d0 d1 hmd t0 t1
  go_enter Tryd.func19, Tryd.ntmps19
  go_wp2_with fail
  refine (HC.out _).mono ?_; rintro e w1 ⟨rfl, hw⟩; obtain rfl : _ = w1 := hw
  go_wp2_with fail
  refine (W1.out _ (hT.below hW)).mono ?_; rintro e w1 ⟨rfl, hw1⟩; (first | replace hW := nextB hW hw1 | replace hW := nextA hW hw1 | replace hW := nextB hW.drew hw1 | replace hW := nextAA hW hw1 | replace hW := nextAD hW hw1); clear hw1
  go_wp2_with fail
  refine (W2.out _ (hT.below hW)).mono ?_; rintro e w1 ⟨rfl, hw1⟩; (first | replace hW := nextB hW hw1 | replace hW := nextA hW hw1 | replace hW := nextB hW.drew hw1 | replace hW := nextAA hW hw1 | replace hW := nextAD hW hw1); clear hw1
  go_wp2_with fail
  refine (W3.out _ (hT.below hW)).mono ?_; rintro e w1 ⟨rfl, hw1⟩; (first | replace hW := nextB hW hw1 | replace hW := nextA hW hw1 | replace hW := nextB hW.drew hw1 | replace hW := nextAA hW hw1 | replace hW := nextAD hW hw1); clear hw1
  go_wp2_with fail
  refine (W4.out _ (hT.below hW)).mono ?_; rintro e w1 ⟨rfl, hw1⟩; (first | replace hW := nextB hW hw1 | replace hW := nextA hW hw1 | replace hW := nextB hW.drew hw1 | replace hW := nextAA hW hw1 | replace hW := nextAD hW hw1); clear hw1
  go_wp2_with fail
  refine (W5.out _ (hT.below hW)).mono ?_; rintro e w1 ⟨rfl, hw1⟩; (first | replace hW := nextB hW hw1 | replace hW := nextA hW hw1 | replace hW := nextB hW.drew hw1 | replace hW := nextAA hW hw1 | replace hW := nextAD hW hw1); clear hw1
  go_wp2_with fail
  refine (W6.out _ (hT.below hW)).mono ?_; rintro e w1 ⟨rfl, hw1⟩; (first | replace hW := nextB hW hw1 | replace hW := nextA hW hw1 | replace hW := nextB hW.drew hw1 | replace hW := nextAA hW hw1 | replace hW := nextAD hW hw1); clear hw1
  go_wp2_with fail
  go_ret
  exact ⟨rfl, hW⟩
end Go.Proofs.YtfhdnppcookcoaaDoor
