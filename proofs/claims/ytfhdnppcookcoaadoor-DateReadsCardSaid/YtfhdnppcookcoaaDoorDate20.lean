/- The walk of the reference's Civil. -/
import Derived.Test.YtfhdnppcookcoaaDoorDate19
namespace Go.Proofs.YtfhdnppcookcoaaDoor
open Go.RowKit Go.PlainAid
set_option linter.unusedVariables false
set_option linter.unusedSimpArgs false
theorem year_more (D y : Int) (h0 : 1970 ≤ y) (h : ahead (y + 1) - 719528 ≤ D) (h1 : D ≤ 2932896) : y + 1 ≤ 9999 := by
  by_cases hy : y + 1 ≤ 9999
  · exact hy
  · have := ahead_mono 10000 (y + 1) (by omega) (by omega)
    rw [ahead_10000] at this
    omega
theorem month_more (D y m r : Int) (m0 : 1 ≤ m) (m1 : m ≤ 12) (hr : r = D - bef y (m - 1).toNat) (hD : D < 337 + febD y) (h : mdays y m ≤ r) : m + 1 ≤ 12 ∧ r - mdays y m = D - bef y (m + 1 - 1).toNat := by
  have hs := bef_step y m m0
  refine ⟨?_, by omega⟩
  by_cases hm : m = 12
  · subst hm
    obtain ⟨b0, b1, b2, b3, b4, b5, b6, b7, b8, b9, b10, b11, b12⟩ := bef_vals y
    have e : bef y ((12 : Int) + 1 - 1).toNat = bef y 12 := rfl
    rw [e] at hs
    omega
  · omega
set_option maxRecDepth 100000 in
set_option maxHeartbeats 1000000 in
theorem rCivil_any (n : Int) (w : World) (h0 : -9223372036854775808 ≤ n) (h1 : n ≤ 9223372036854775807) : Calls Tryd.prog 17 #[.int .i64 n] w (Civ6End (civ (secs n / 86400)) (secs n % 86400) w) := by
  obtain ⟨s0, s1⟩ := secs_le n
  have hS : max 0 (min n 253402300799) = secs n := rfl
  have HS := Lib.hid hS
  clear hS
  have HF : Hid (∀ y m d, civ (secs n / 86400) = (y, m, d) → Civ6End (civ (secs n / 86400)) (secs n % 86400) w (.returned (.tuple #[.int .i64 y, .int .i64 m, .int .i64 d, .int .i64 (secs n % 86400 / 3600), .int .i64 (secs n % 86400 / 60 % 60), .int .i64 (secs n % 86400 % 60)])) w) := by
    intro y m d h; rw [h]; exact ⟨rfl, rfl⟩
  have HC : Hid (∀ y m d, 0 ≤ y → Valid y m d → dayNum y m d = secs n / 86400 → civ (secs n / 86400) = (y, m, d)) := by
    intro y m d hy v e; exact civ_is _ y m d (by omega) (by omega) hy v e
  obtain ⟨Q, hQ⟩ : ∃ Q, Q = Civ6End (civ (secs n / 86400)) (secs n % 86400) w := ⟨_, rfl⟩
  rw [← hQ] at HF ⊢
  clear hQ
  obtain ⟨P0, hP⟩ : ∃ P0, P0 = civ (secs n / 86400) := ⟨_, rfl⟩
  rw [← hP] at HF HC
  clear hP
  go_enter Tryd.func17, Tryd.ntmps17
  go_wp2_with fail
  rw [HS.out]
  generalize secs n = S at *
  have d0 : 0 ≤ S / 86400 := by omega
  have d1 : S / 86400 ≤ 2932896 := by omega
  have t0 : 0 ≤ S % 86400 := by omega
  have t1 : S % 86400 < 86400 := by omega
  have hg := guess_ok (S / 86400) d0 d1
  clear HS h0 h1
  generalize S / 86400 = D at *
  generalize S % 86400 = T at *
  obtain ⟨g0, g1, g2⟩ := hg
  have G2 := Lib.hid g2
  clear g2
  have HA0 : Hid (AhIs 1970 719528) := fun w => by rw [← ahead_1970]; exact rahead_any 1970 w (by omega) (by omega)
  go_loop [10] (fun t => ∃ y : Int, 1970 ≤ y ∧ y ≤ 9999 ∧ Hid (ahead y - 719528 ≤ D) ∧ t = .int .i64 y) (fun t => (9999 - intOf t).toNat)
  case atStart => exact ⟨_, g0, g1, G2, rfl⟩
  case round =>
    obtain ⟨y, y0, y1, hy, rfl⟩ := hrel
    have HA1 : Hid (AhIs (y + 1) (ahead (y + 1))) := fun w => rahead_any (y + 1) w (by omega) (by omega)
    have HA2 : Hid (AhIs y (ahead y)) := fun w => rahead_any y w (by omega) (by omega)
    have hs := ahead_succ0 y (by omega)
    have hf : 28 ≤ febD y ∧ febD y ≤ 29 := by have := feb_cases y; omega
    have hyo := hy.out
    have hlo := ahead_mono 1970 y (by omega) (by omega)
    rw [ahead_1970] at hlo
    have hmore := Lib.hid (year_more D y y0)
    have hhi := ahead_mono y 10000 (by omega) (by omega)
    rw [ahead_10000] at hhi
    by_cases hc : ahead (y + 1) - 719528 ≤ D
    · have y2 := hmore.out hc d1
      have hcH := Lib.hid hc
      obtain ⟨A, hA⟩ : ∃ A, A = ahead (y + 1) := ⟨_, rfl⟩
      rw [← hA] at HA1 hc hs
      have a0 : 0 ≤ A := by omega
      have a1 : A ≤ 10000000 := by omega
      clear hA hs hyo hlo hhi hf
      go_wp2_with fail
      refine (HA1.out.at_ _).mono ?_; rintro e w1 ⟨rfl, hw⟩; obtain rfl : _ = w1 := hw
      go_wp2_with fail
      refine (HA0.out.at_ _).mono ?_; rintro e w1 ⟨rfl, hw⟩; obtain rfl : _ = w1 := hw
      go_wp2_with fail
      go_round
      case rel => exact ⟨y + 1, by omega, by omega, hcH, rfl⟩
      case measure => simp [intOf]; omega
    · have hD : D - (ahead y - 719528) < 337 + febD y := by omega
      obtain ⟨A, hA⟩ : ∃ A, A = ahead (y + 1) := ⟨_, rfl⟩
      rw [← hA] at HA1 hc hs
      obtain ⟨B, hB⟩ : ∃ B, B = ahead y := ⟨_, rfl⟩
      rw [← hB] at HA2 hs hyo hD hlo
      have a0 : 0 ≤ A := by omega
      have a1 : A ≤ 10000000 := by omega
      have b0 : 0 ≤ B := by omega
      have b1 : B ≤ 10000000 := by omega
      have HD := Lib.hid hD
      have HB := Lib.hid hB
      have r0 : 0 ≤ D - (B - 719528) := by omega
      have r1 : D - (B - 719528) ≤ 400 := by omega
      clear hA hs hyo hlo hhi hf hD hB
      go_wp2_with fail
      refine (HA1.out.at_ _).mono ?_; rintro e w1 ⟨rfl, hw⟩; obtain rfl : _ = w1 := hw
      go_wp2_with fail
      refine (HA0.out.at_ _).mono ?_; rintro e w1 ⟨rfl, hw⟩; obtain rfl : _ = w1 := hw
      go_wp2_with fail
      refine (HA2.out.at_ _).mono ?_; rintro e w1 ⟨rfl, hw⟩; obtain rfl : _ = w1 := hw
      go_wp2_with fail
      refine (HA0.out.at_ _).mono ?_; rintro e w1 ⟨rfl, hw⟩; obtain rfl : _ = w1 := hw
      go_wp2_with fail
      obtain ⟨R, hR⟩ : ∃ R, R = D - (B - 719528) := ⟨_, rfl⟩
      rw [← hR] at HD r0 r1
      simp only [← hR]
      have HR := Lib.hid hR
      clear hR hc a0 a1 b0 b1
      go_loop [8, 11] (fun r k => ∃ m q : Int, 1 ≤ m ∧ m ≤ 12 ∧ k = .int .i64 m ∧ 0 ≤ q ∧ q ≤ 400 ∧ Hid (q = R - bef y (m - 1).toNat) ∧ r = .int .i64 q) (fun _ k => (12 - intOf k).toNat)
      case atStart => exact ⟨1, R, by omega, by omega, rfl, r0, r1, (by show R = R - 0; omega), rfl⟩
      case round =>
        obtain ⟨m, q, m0, m1, rfl, q0, q1, hq, rfl⟩ := hrel
        have HM : Hid (MdIs y m (mdays y m)) := fun w => rdays_any y m w (by omega) (by omega) (by omega) (by omega)
        have hl := mdays_le y m
        have hmm := Lib.hid (month_more R y m q m0 m1 hq.out HD.out)
        have hfin : Hid (¬ mdays y m ≤ q → P0 = (y, m, q + 1)) := fun hn => HC.out y m (q + 1) (by omega) ⟨m0, m1, by omega, by omega⟩ (by
          have e1 := hq.out
          have e2 := HR.out
          have e3 := HB.out
          unfold dayNum
          omega)
        obtain ⟨L, hL⟩ : ∃ L, L = mdays y m := ⟨_, rfl⟩
        rw [← hL] at HM hl hmm hfin
        obtain ⟨l0, l1⟩ := hl
        clear hL
        by_cases hc : L ≤ q
        · obtain ⟨m2, hq2⟩ := hmm.out hc
          have HQ2 := Lib.hid hq2
          clear hq2
          go_wp2_with fail
          refine (HM.out.at_ _).mono ?_; rintro e w1 ⟨rfl, hw⟩; obtain rfl : _ = w1 := hw
          go_wp2_with fail
          refine (HM.out.at_ _).mono ?_; rintro e w1 ⟨rfl, hw⟩; obtain rfl : _ = w1 := hw
          go_wp2_with fail
          go_round
          case rel => exact ⟨m + 1, q - L, by omega, by omega, rfl, by omega, by omega, HQ2, rfl⟩
          case measure => simp [intOf]; omega
        · have he := Lib.hid (HF.out y m (q + 1) (hfin.out hc))
          clear hfin
          go_wp2_with fail
          refine (HM.out.at_ _).mono ?_; rintro e w1 ⟨rfl, hw⟩; obtain rfl : _ = w1 := hw
          go_wp2_with fail
          ((try simp only [Exit.inBlock, Exit.then]); refine bodyPost_ret (results_tmp6 rfl _ _ _) rfl ?_)
          exact he.out
end Go.Proofs.YtfhdnppcookcoaaDoor
