/- The walks of the reference's num, which, seconds. -/
import Derived.Test.YtfhdnppcookcoaaDoorDate21
import Derived.Test.YtfhdnppcookcoaaDoorDate26
namespace Go.Proofs.YtfhdnppcookcoaaDoor
open Go.RowKit Go.PlainAid
set_option linter.unusedVariables false
set_option linter.unusedSimpArgs false
def rnumV (s : ByteArray) : Int := if digitsB s s.size = true then numZ s s.size else -1
theorem rnumV_le (s : ByteArray) (h : s.size ≤ 4) : -1 ≤ rnumV s ∧ rnumV s ≤ 9999 := by
  unfold rnumV
  by_cases hd : digitsB s s.size = true
  · rw [if_pos hd]
    have h1 := numZ_bound s s.size (by omega) hd
    have h2 : (10 : Int) ^ s.size ≤ 10 ^ 4 := by exact_mod_cast Nat.pow_le_pow_right (n := 10) (by omega) h
    omega
  · rw [if_neg hd]; omega
theorem rnum_any (s : ByteArray) (w : World) (hs : s.size ≤ 10) : Calls Tryd.prog 39 #[.string s] w fun e w' => e = .returned (.int .i64 (rnumV s)) ∧ w = w' := by
  have hb := get_bt s
  have hv1 : ∀ k, k < s.size → (decide (48 ≤ bt s k) && decide (bt s k ≤ 57)) = false → rnumV s = -1 := fun k hk h => by
    unfold rnumV; rw [digits_stop2 s k s.size hk h]; rfl
  have hv2 : digitsB s s.size = true → rnumV s = numZ s s.size := fun h => by unfold rnumV; rw [if_pos h]
  have HV1 := Lib.hid hv1
  have HV2 := Lib.hid hv2
  obtain ⟨v, hv⟩ : ∃ v, v = rnumV s := ⟨_, rfl⟩
  rw [← hv] at HV1 HV2 ⊢
  clear hv1 hv2 hv
  go_enter Tryd.func39, Tryd.ntmps39
  go_wp2
  go_loop [3, 4] (fun n i => ∃ k : Nat, k ≤ s.size ∧ i = .int .i64 k ∧ n = .int .i64 (numZ s k) ∧ Hid (digitsB s k = true)) (fun _ i => s.size - (intOf i).toNat)
  case atStart => exact ⟨0, by omega, rfl, rfl, rfl⟩
  case round =>
    obtain ⟨k, hk, rfl, rfl, hd⟩ := hrel
    have b0 := bt_nonneg s k
    have b1 := bt_le s k
    obtain ⟨z0, z1⟩ := numZ_small s k (by omega) hd.out
    by_cases hlt : k < s.size
    · by_cases h48 : 48 ≤ bt s k
      · by_cases h57 : bt s k ≤ 57
        · have hn : Hid (digitsB s (k + 1) = true) := by show _ = _; simp only [digitsB, hd.out, Bool.true_and]; simp; omega
          have hz : Hid (10 * numZ s k + (bt s k - 48) = numZ s (k + 1)) := by show _ = _; simp only [numZ]; omega
          go_wp2
          go_round
          case rel => exact ⟨k + 1, by omega, by go_num, by rw [hz.out], hn⟩
          case measure => simp [intOf]; omega
        · have HZ := Lib.hid (HV1.out k hlt (by rw [show decide (bt s k ≤ 57) = false by simp; omega, Bool.and_false]))
          go_wp2
          go_ret
          exact ⟨by rw [HZ.out]; rfl, rfl⟩
      · have HZ := Lib.hid (HV1.out k hlt (by rw [show decide (48 ≤ bt s k) = false by simp; omega, Bool.false_and]))
        go_wp2
        go_ret
        exact ⟨by rw [HZ.out]; rfl, rfl⟩
    · obtain rfl : k = s.size := by omega
      have HZ := Lib.hid (HV2.out hd.out)
      go_wp2
      go_ret
      exact ⟨by rw [HZ.out]; rfl, rfl⟩
def FoldIs (s X : ByteArray) : Prop := ∀ w, Calls Tryd.prog 49 #[.string s] w fun e w' => e = .returned (.string X) ∧ Below w.heap.size w w'
theorem FoldIs.at_ {s X : ByteArray} (h : FoldIs s X) (w : World) : Calls Tryd.prog 49 #[.string s] w fun e w' => e = .returned (.string X) ∧ Below w.heap.size w w' := h w
set_option maxRecDepth 100000 in
set_option maxHeartbeats 1000000 in
theorem rwhich_any (s : ByteArray) (w : World) (hs : s.size ≤ 1000) : Calls Tryd.prog 40 #[.string s] w fun e w' => e = .returned (.int .i64 (monV s)) ∧ Below w.heap.size w w' := by
  have hW0 := Below.refl w.heap.size w
  obtain ⟨V, hV⟩ : ∃ V, V = monV s := ⟨_, rfl⟩
  rw [← hV]
  have F1 : Hid (FoldIs s (foldS s)) := fun w => rfold_any s w (by omega)
  obtain ⟨X, hX⟩ : ∃ X, X = foldS s := ⟨_, rfl⟩
  rw [← hX] at F1
  have hV0 : Hid (V = monFrom X.toList 12 1) := by show _ = _; rw [hV, hX]; rfl
  clear hV hX
  go_enter Tryd.func40, Tryd.ntmps40
  go_wp2
  go_loopw [3] (fun i wr => ∃ k : Nat, 1 ≤ k ∧ k ≤ 13 ∧ i = .int .i64 k ∧ Hid (V = monFrom X.toList (13 - k) k) ∧ Below w.heap.size w wr) (fun i _ => 13 - (intOf i).toNat)
  case atStart => exact ⟨1, by omega, by omega, rfl, hV0, hW0⟩
  case round =>
    obtain ⟨k, hk1, hk2, rfl, hm, hW⟩ := hrel
    by_cases hlt : k ≤ 12
    · have hms : (monS k).size ≤ 100 := by unfold monS; rw [ByteArray.size_extract]; omega
      have F2 : Hid (FoldIs (monS k) (foldS (monS k))) := fun w => rfold_any (monS k) w (by omega)
      have hmk : monthsS.extract (3 * (k : Int) - 3).toNat (3 * (k : Int)).toNat = monS k := by
        rw [show (3 * (k : Int) - 3).toNat = 3 * k - 3 by omega, show (3 * (k : Int)).toNat = 3 * k by omega]; rfl
      have F3 : Hid (RMonIs k (monS k)) := fun w => by
        have := rmonth_any k w (by omega) (by omega)
        rw [hmk] at this
        exact this
      obtain ⟨wo, rfl⟩ : ∃ wo : World, wo = wr := ⟨_, rfl⟩
      have hstep : V = if X.toList == (foldS (monS k)).toList then (k : Int) else monFrom X.toList (13 - (k + 1)) (k + 1) := by
        rw [hm.out, show 13 - k = (13 - (k + 1)) + 1 by omega]; rfl
      clear hm hmk hms
      generalize foldS (monS k) = Y at *
      generalize monS k = M at *
      cases hc : (X.toList == Y.toList) with
      | true =>
        rw [hc] at hstep
        have HZ : Hid (V = k) := hstep
        clear hstep
        go_wp2_with fail
        refine (F1.out.at_ _).mono ?_; rintro e w1 ⟨rfl, hw1⟩; (first | replace hW := nextB hW hw1 | replace hW := nextA hW hw1 | replace hW := nextB hW.drew hw1 | replace hW := nextAA hW hw1 | replace hW := nextAD hW hw1); clear hw1
        go_wp2_with fail
        refine (F3.out _).mono ?_; rintro e w1 ⟨rfl, hw⟩; obtain rfl : _ = w1 := hw
        go_wp2_with fail
        refine (F2.out.at_ _).mono ?_; rintro e w1 ⟨rfl, hw1⟩; (first | replace hW := nextB hW hw1 | replace hW := nextA hW hw1 | replace hW := nextB hW.drew hw1 | replace hW := nextAA hW hw1 | replace hW := nextAD hW hw1); clear hw1
        go_wp2_with fail
        go_ret
        exact ⟨by rw [HZ.out]; rfl, hW⟩
      | false =>
        rw [hc] at hstep
        have HZ : Hid (V = monFrom X.toList (13 - (k + 1)) (k + 1)) := hstep
        clear hstep
        go_wp2_with fail
        refine (F1.out.at_ _).mono ?_; rintro e w1 ⟨rfl, hw1⟩; (first | replace hW := nextB hW hw1 | replace hW := nextA hW hw1 | replace hW := nextB hW.drew hw1 | replace hW := nextAA hW hw1 | replace hW := nextAD hW hw1); clear hw1
        go_wp2_with fail
        refine (F3.out _).mono ?_; rintro e w1 ⟨rfl, hw⟩; obtain rfl : _ = w1 := hw
        go_wp2_with fail
        refine (F2.out.at_ _).mono ?_; rintro e w1 ⟨rfl, hw1⟩; (first | replace hW := nextB hW hw1 | replace hW := nextA hW hw1 | replace hW := nextB hW.drew hw1 | replace hW := nextAA hW hw1 | replace hW := nextAD hW hw1); clear hw1
        go_wp2_with fail
        go_roundw
        case rel => exact ⟨k + 1, by omega, by omega, by go_num, HZ.out, hW⟩
        case measure => simp [intOf]; omega
    · obtain rfl : k = 13 := by omega
      have HZ : Hid (V = 0) := hm.out
      go_wp2
      go_ret
      exact ⟨by rw [HZ.out]; rfl, hW⟩
theorem bef_le (y : Int) : ∀ k : Nat, bef y k ≤ 31 * k
  | 0 => by simp [bef]
  | k + 1 => by
    have := bef_le y k
    have := mdays_le y (k + 1)
    simp only [bef]; omega
def secV (y m d : Int) : Int × Bool := if 0 ≤ y ∧ 1 ≤ m ∧ 1 ≤ d ∧ d ≤ mdays y m then (86400 * dayNum y m d, true) else (0, false)
set_option maxHeartbeats 1000000 in
theorem rseconds_any (y m d : Int) (w : World) (y0 : -1 ≤ y) (y1 : y ≤ 9999) (m0 : -1 ≤ m) (m1 : m ≤ 9999) (d0 : -1 ≤ d) (d1 : d ≤ 9999) : Calls Tryd.prog 38 #[.int .i64 y, .int .i64 m, .int .i64 d] w (Num2End (secV y m d) w) := by
  by_cases h1 : y < 0
  · rw [show secV y m d = (0, false) from if_neg (by omega)]
    go_enter Tryd.func38, Tryd.ntmps38
    go_wp2_with fail
    go_ret2
    exact ⟨rfl, rfl⟩
  by_cases h2 : m < 1
  · rw [show secV y m d = (0, false) from if_neg (by omega)]
    go_enter Tryd.func38, Tryd.ntmps38
    go_wp2_with fail
    go_ret2
    exact ⟨rfl, rfl⟩
  by_cases h3 : d < 1
  · rw [show secV y m d = (0, false) from if_neg (by omega)]
    go_enter Tryd.func38, Tryd.ntmps38
    go_wp2_with fail
    go_ret2
    exact ⟨rfl, rfl⟩
  have HM : Hid (MdIs y m (mdays y m)) := fun w => rdays_any y m w (by omega) (by omega) (by omega) (by omega)
  have hl := mdays_le y m
  by_cases h4 : mdays y m < d
  · rw [show secV y m d = (0, false) from if_neg (by omega)]
    generalize mdays y m = L at *
    go_enter Tryd.func38, Tryd.ntmps38
    go_wp2_with fail
    refine (HM.out.at_ _).mono ?_; rintro e w1 ⟨rfl, hw⟩; obtain rfl : _ = w1 := hw
    go_wp2_with fail
    go_ret2
    exact ⟨rfl, rfl⟩
  rw [show secV y m d = (86400 * dayNum y m d, true) from if_pos (by omega)]
  have HA : Hid (AhIs y (ahead y)) := fun w => rahead_any y w (by omega) (by omega)
  have HA0 : Hid (AhIs 1970 719528) := fun w => by rw [← ahead_1970]; exact rahead_any 1970 w (by omega) (by omega)
  have ha0 := ahead_mono 0 y (by omega) (by omega)
  have ha1 := ahead_mono y 10000 (by omega) (by omega)
  rw [ahead_10000] at ha1
  rw [show ahead 0 = 0 from rfl] at ha0
  have HF : Hid (∀ k : Nat, (k : Int) = m → 86400 * (ahead y - 719528 + d - 1 + bef y (k - 1)) = 86400 * dayNum y m d) := by
    intro k hk
    unfold dayNum
    rw [show (m - 1).toNat = k - 1 by omega]
    omega
  obtain ⟨V, hV⟩ : ∃ V, V = 86400 * dayNum y m d := ⟨_, rfl⟩
  rw [← hV] at HF ⊢
  clear hV
  obtain ⟨A0, hA⟩ : ∃ A0, A0 = ahead y := ⟨_, rfl⟩
  rw [← hA] at HA ha0 ha1 HF
  clear hA
  obtain ⟨L, hL⟩ : ∃ L, L = mdays y m := ⟨_, rfl⟩
  rw [← hL] at HM hl h4
  clear hL
  go_enter Tryd.func38, Tryd.ntmps38
  go_wp2_with fail
  refine (HM.out.at_ _).mono ?_; rintro e w1 ⟨rfl, hw⟩; obtain rfl : _ = w1 := hw
  go_wp2_with fail
  refine (HA.out.at_ _).mono ?_; rintro e w1 ⟨rfl, hw⟩; obtain rfl : _ = w1 := hw
  go_wp2_with fail
  refine (HA0.out.at_ _).mono ?_; rintro e w1 ⟨rfl, hw⟩; obtain rfl : _ = w1 := hw
  go_wp2_with fail
  go_loop [8, 9] (fun n k => ∃ (j : Nat) (q : Int), 1 ≤ j ∧ (j : Int) ≤ m ∧ k = .int .i64 j ∧ -1000000 ≤ q ∧ q ≤ 5000000 + 31 * j ∧ Hid (q = A0 - 719528 + d - 1 + bef y (j - 1)) ∧ n = .int .i64 q) (fun _ k => (m - intOf k).toNat)
  case atStart => exact ⟨1, A0 - 719528 + d - 1, by omega, by omega, rfl, by omega, by omega, (by show _ = _ + (0 : Int); omega), rfl⟩
  case round =>
    obtain ⟨j, q, j0, j1, rfl, q0, q1, hq, rfl⟩ := hrel
    by_cases hc : (j : Int) < m
    · have HM2 : Hid (MdIs y j (mdays y j)) := fun w => rdays_any y j w (by omega) (by omega) (by omega) (by omega)
      have hl2 := mdays_le y j
      have hq2 : Hid (q + mdays y j = A0 - 719528 + d - 1 + bef y (j + 1 - 1)) := by
        show _ = _
        have e : bef y (j + 1 - 1) = bef y (j - 1) + mdays y j := by
          obtain ⟨i, rfl⟩ : ∃ i, j = i + 1 := ⟨j - 1, by omega⟩
          show bef y i + mdays y ((i : Int) + 1) = _
          rw [show i + 1 - 1 = i by omega, show (((i + 1 : Nat)) : Int) = (i : Int) + 1 by omega]
        rw [e, hq.out]; omega
      generalize mdays y j = L2 at *
      go_wp2_with fail
      refine (HM2.out.at_ _).mono ?_; rintro e w1 ⟨rfl, hw⟩; obtain rfl : _ = w1 := hw
      go_wp2_with fail
      go_round
      case rel => exact ⟨j + 1, q + L2, by omega, by omega, by go_num, by omega, by omega, hq2, rfl⟩
      case measure => simp [intOf]; omega
    · have he := HF.out j (by omega)
      rw [← hq.out] at he
      have HE := Lib.hid he
      clear he
      go_wp2_with fail
      go_ret2
      exact ⟨by rw [← HE.out]; rfl, rfl⟩
end Go.Proofs.YtfhdnppcookcoaaDoor
