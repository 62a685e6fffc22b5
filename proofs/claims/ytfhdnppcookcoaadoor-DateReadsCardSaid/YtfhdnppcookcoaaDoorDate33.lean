/- The walks of the reference's ReadRfc and ReadDay. -/
import Derived.Test.YtfhdnppcookcoaaDoorDateR
import Derived.Deep.DeepCutAuto
import Derived.Deep.RegionHeld3
namespace Go.Proofs.YtfhdnppcookcoaaDoor
open Go.RowKit Go.PlainAid
set_option linter.unusedVariables false
set_option linter.unusedSimpArgs false
def rRfcEnd (o : Bool) (m h mi se n : Int) (same : Bool) : Int × Int := if m ≤ 12 ∧ 0 ≤ h ∧ 0 ≤ mi ∧ 0 ≤ se ∧ o = true ∧ 0 ≤ n ∧ n ≤ 253402300799 ∧ same = true then (n, 0) else (0, 3)
def rRfcN (s : ByteArray) : Int := (secV (rnumV (s.extract 0 4)) (rnumV (s.extract 5 7)) (rnumV (s.extract 8 10))).1 + 3600 * rnumV (s.extract 11 13) + 60 * rnumV (s.extract 14 16) + rnumV (s.extract 17 19)
def rReadRfcV (s : ByteArray) : Int × Int :=
  if s.size = 20 then rRfcEnd (secV (rnumV (s.extract 0 4)) (rnumV (s.extract 5 7)) (rnumV (s.extract 8 10))).2 (rnumV (s.extract 5 7)) (rnumV (s.extract 11 13)) (rnumV (s.extract 14 16)) (rnumV (s.extract 17 19)) (rRfcN s) ((rfcS (rRfcN s)).toList == s.toList)
  else (0, 3)
set_option maxHeartbeats 4000000 in
set_option maxRecDepth 100000 in
theorem rrfc_walk (s : ByteArray) (w : World) (h20 : s.size = 20) (y m d n0 : Int) (o : Bool) (h mi se N : Int) (v : Int × Int) (R : ByteArray)
    (NY : Hid (RNumIs (s.extract 0 4) y)) (NM : Hid (RNumIs (s.extract 5 7) m)) (ND : Hid (RNumIs (s.extract 8 10) d)) (NS : Hid (SecIs y m d n0 o))
    (NH : Hid (RNumIs (s.extract 11 13) h)) (NI : Hid (RNumIs (s.extract 14 16) mi)) (NSe : Hid (RNumIs (s.extract 17 19) se))
    (b0 : -1000000000000 ≤ n0) (b1 : n0 ≤ 1000000000000) (b2 : -1 ≤ h) (b3 : h ≤ 9999) (b4 : -1 ≤ mi) (b5 : mi ≤ 9999) (b6 : -1 ≤ se) (b7 : se ≤ 9999)
    (HN : Hid (N = n0 + 3600 * h + 60 * mi + se)) (HR : Hid (StrIs 20 N R)) (HV : Hid (v = rRfcEnd o m h mi se N (R.toList == s.toList))) (hT : TabOK w) : Calls Tryd.prog 23 #[.string s] w (Read2End v w) := by
    have hW := Below.refl w.heap.size w
    go_enter Tryd.func23, Tryd.ntmps23
    go_wp2_with fail
    go_region_held3 (fun _ => True) (trivial) (first | (go_at_call 39; (with_reducible first | refine (NY.out.at_ _).mono ?_ | refine (NM.out.at_ _).mono ?_ | refine (ND.out.at_ _).mono ?_); rintro e w1 ⟨rfl, hw⟩; obtain rfl : _ = w1 := hw) | (go_at_call 38; with_reducible refine (NS.out.at_ _).mono ?_; rintro e w1 ⟨rfl, hw⟩; obtain rfl : _ = w1 := hw))
    replace hW := hW.drew
    by_cases q0 : 12 < m
    · have HE : Hid (v = (0, 3)) := by show _ = _; rw [HV.out]; exact if_neg (by omega)
      go_wp2_with (go_at_call 39; (with_reducible first | refine (NM.out.at_ _).mono ?_ | refine (NH.out.at_ _).mono ?_ | refine (NI.out.at_ _).mono ?_ | refine (NSe.out.at_ _).mono ?_); rintro e w1 ⟨rfl, hw⟩; obtain rfl : _ = w1 := hw)
      go_ret2
      exact ⟨by rw [HE.out]; rfl, hW⟩
    by_cases q1 : h < 0
    · have HE : Hid (v = (0, 3)) := by show _ = _; rw [HV.out]; exact if_neg (by omega)
      go_wp2_with (go_at_call 39; (with_reducible first | refine (NM.out.at_ _).mono ?_ | refine (NH.out.at_ _).mono ?_ | refine (NI.out.at_ _).mono ?_ | refine (NSe.out.at_ _).mono ?_); rintro e w1 ⟨rfl, hw⟩; obtain rfl : _ = w1 := hw)
      go_ret2
      exact ⟨by rw [HE.out]; rfl, hW⟩
    by_cases q2 : mi < 0
    · have HE : Hid (v = (0, 3)) := by show _ = _; rw [HV.out]; exact if_neg (by omega)
      go_wp2_with (go_at_call 39; (with_reducible first | refine (NM.out.at_ _).mono ?_ | refine (NH.out.at_ _).mono ?_ | refine (NI.out.at_ _).mono ?_ | refine (NSe.out.at_ _).mono ?_); rintro e w1 ⟨rfl, hw⟩; obtain rfl : _ = w1 := hw)
      go_ret2
      exact ⟨by rw [HE.out]; rfl, hW⟩
    by_cases q3 : se < 0
    · have HE : Hid (v = (0, 3)) := by show _ = _; rw [HV.out]; exact if_neg (by omega)
      go_wp2_with (go_at_call 39; (with_reducible first | refine (NM.out.at_ _).mono ?_ | refine (NH.out.at_ _).mono ?_ | refine (NI.out.at_ _).mono ?_ | refine (NSe.out.at_ _).mono ?_); rintro e w1 ⟨rfl, hw⟩; obtain rfl : _ = w1 := hw)
      go_ret2
      exact ⟨by rw [HE.out]; rfl, hW⟩
    go_wp2_with (go_at_call 39; (with_reducible first | refine (NM.out.at_ _).mono ?_ | refine (NH.out.at_ _).mono ?_ | refine (NI.out.at_ _).mono ?_ | refine (NSe.out.at_ _).mono ?_); rintro e w1 ⟨rfl, hw⟩; obtain rfl : _ = w1 := hw)
    go_upto_region 6 with fail
    go_cut [4] (fun t wx => t = .int .i64 N ∧ Below w.heap.size w wx)
    case first =>
      have g1 : IntKind.i64.wrap (3600 * h) = 3600 * h := IntWalk.i64_in _ (by omega)
      have g2 : IntKind.i64.wrap (60 * mi) = 60 * mi := IntWalk.i64_in _ (by omega)
      have g3 : IntKind.i64.wrap (n0 + 3600 * h) = n0 + 3600 * h := IntWalk.i64_in _ (by omega)
      have g4 : IntKind.i64.wrap (n0 + 3600 * h + 60 * mi) = n0 + 3600 * h + 60 * mi := IntWalk.i64_in _ (by omega)
      have g5 : IntKind.i64.wrap (n0 + 3600 * h + 60 * mi + se) = n0 + 3600 * h + 60 * mi + se := IntWalk.i64_in _ (by omega)
      go_region_held3 (fun _ => True) (trivial) ((go_at_call 39; (with_reducible first | refine (NM.out.at_ _).mono ?_ | refine (NH.out.at_ _).mono ?_ | refine (NI.out.at_ _).mono ?_ | refine (NSe.out.at_ _).mono ?_); rintro e w1 ⟨rfl, hw⟩; obtain rfl : _ = w1 := hw))
      replace hW := hW.drew
      go_wp2_with fail
      go_meet
      exact ⟨by rw [HN.out], hW⟩
    case rest =>
      obtain ⟨rfl, hW2⟩ := hcut
      cases o with
      | false =>
        have HE : Hid (v = (0, 3)) := by show _ = _; rw [HV.out]; exact if_neg (by simp)
        go_wp2_with fail
        go_ret2
        exact ⟨by rw [HE.out]; rfl, hW2⟩
      | true =>
        by_cases k0 : N < 0
        · have HE : Hid (v = (0, 3)) := by show _ = _; rw [HV.out]; exact if_neg (by omega)
          have c8 : decide (N < 0) = true := by simpa using k0
          clear k0 b0 b1 b2 b3 b4 b5 b6 b7 q0 q1 q2 q3
          go_wp2_with fail
          go_ret2
          exact ⟨by rw [HE.out]; rfl, hW2⟩
        · have c8 : decide (N < 0) = false := by simpa using k0
          by_cases k1 : 253402300799 < N
          · have HE : Hid (v = (0, 3)) := by show _ = _; rw [HV.out]; exact if_neg (by omega)
            have c9 : decide (253402300799 < N) = true := by simpa using k1
            clear k0 k1 b0 b1 b2 b3 b4 b5 b6 b7 q0 q1 q2 q3
            go_wp2_with fail
            go_ret2
            exact ⟨by rw [HE.out]; rfl, hW2⟩
          · have c9 : decide (253402300799 < N) = false := by simp; omega
            cases hs : (R.toList == s.toList) with
            | false =>
              have HE : Hid (v = (0, 3)) := by show _ = _; rw [HV.out, hs]; exact if_neg (by simp)
              clear k0 k1 b0 b1 b2 b3 b4 b5 b6 b7 q0 q1 q2 q3
              go_wp2_with fail
              refine (HR.out.at_ (hT.below hW2)).mono ?_; rintro e w1 ⟨rfl, hw1⟩; replace hW2 := nextB hW2 hw1
              go_wp2_with fail
              go_ret2
              exact ⟨by rw [HE.out]; rfl, hW2⟩
            | true =>
              have HE : Hid (v = (N, 0)) := by show _ = _; rw [HV.out, hs]; exact if_pos ⟨by omega, by omega, by omega, by omega, rfl, by omega, by omega, rfl⟩
              clear k0 k1 b0 b1 b2 b3 b4 b5 b6 b7 q0 q1 q2 q3
              go_wp2_with fail
              refine (HR.out.at_ (hT.below hW2)).mono ?_; rintro e w1 ⟨rfl, hw1⟩; replace hW2 := nextB hW2 hw1
              go_wp2_with fail
              go_ret2
              exact ⟨by rw [HE.out]; rfl, hW2⟩
theorem rReadRfc_any (s : ByteArray) (w : World) (hs : s.size ≤ 1000) (hT : TabOK w) : Calls Tryd.prog 23 #[.string s] w (Read2End (rReadRfcV s) w) := by
  by_cases h20 : s.size = 20
  · have f1 := ext_le s 0 4 (by omega)
    have f2 := ext_le s 5 7 (by omega)
    have f3 := ext_le s 8 10 (by omega)
    have f4 := ext_le s 11 13 (by omega)
    have f5 := ext_le s 14 16 (by omega)
    have f6 := ext_le s 17 19 (by omega)
    have a1 := rnumV_le (s.extract 0 4) (by omega)
    have a2 := rnumV_le (s.extract 5 7) (by omega)
    have a3 := rnumV_le (s.extract 8 10) (by omega)
    have a4 := rnumV_le (s.extract 11 13) (by omega)
    have a5 := rnumV_le (s.extract 14 16) (by omega)
    have a6 := rnumV_le (s.extract 17 19) (by omega)
    have a7 := secV_le (rnumV (s.extract 0 4)) (rnumV (s.extract 5 7)) (rnumV (s.extract 8 10)) a1.2 a2.2
    exact rrfc_walk s w h20 _ _ _ _ _ _ _ _ (rRfcN s) _ _ (rnum_is _ (by omega)) (rnum_is _ (by omega)) (rnum_is _ (by omega)) (fun w => rseconds_any _ _ _ w a1.1 a1.2 a2.1 a2.2 a3.1 a3.2)
      (rnum_is _ (by omega)) (rnum_is _ (by omega)) (rnum_is _ (by omega)) a7.1 a7.2 a4.1 a4.2 a5.1 a5.2 a6.1 a6.2 rfl (fun w _ => rRfc_any (rRfcN s) w (by unfold rRfcN; omega) (by unfold rRfcN; omega)) (by show rReadRfcV s = _; exact if_pos h20) hT
  · rw [show rReadRfcV s = (0, 3) from if_neg h20]
    have hW := Below.refl w.heap.size w
    go_enter Tryd.func23, Tryd.ntmps23
    go_wp2_with fail
    go_ret2
    exact ⟨rfl, hW⟩
def rDayX (s : ByteArray) : ByteArray := if s.size = 10 then ⟨#[48]⟩ ++ s else s
def rReadDayV (s : ByteArray) : Int × Int :=
  if (rDayX s).size = 11 ∧ bt (rDayX s) 2 = 45 ∧ bt (rDayX s) 6 = 45 then
    (if (secV (rnumV ((rDayX s).extract 7 11)) (monV ((rDayX s).extract 3 6)) (rnumV ((rDayX s).extract 0 2))).2 = true ∧ 0 ≤ (secV (rnumV ((rDayX s).extract 7 11)) (monV ((rDayX s).extract 3 6)) (rnumV ((rDayX s).extract 0 2))).1 then
      ((secV (rnumV ((rDayX s).extract 7 11)) (monV ((rDayX s).extract 3 6)) (rnumV ((rDayX s).extract 0 2))).1, 0) else (0, 3))
  else (0, 3)
set_option maxHeartbeats 2000000 in
set_option maxRecDepth 100000 in
theorem rday_ten (s : ByteArray) (w : World) (h10 : s.size = 10) (hx : (⟨#[48]⟩ ++ s : ByteArray).size = 11) (c2 : bt (⟨#[48]⟩ ++ s) 2 = 45) (c6 : bt (⟨#[48]⟩ ++ s) 6 = 45) (y m d n0 : Int) (o : Bool) (v : Int × Int)
    (NY : Hid (RNumIs ((⟨#[48]⟩ ++ s : ByteArray).extract 7 11) y)) (NM : Hid (WhichIs ((⟨#[48]⟩ ++ s : ByteArray).extract 3 6) m)) (ND : Hid (RNumIs ((⟨#[48]⟩ ++ s : ByteArray).extract 0 2) d)) (NS : Hid (SecIs y m d n0 o))
    (HV : Hid (v = if o = true ∧ 0 ≤ n0 then (n0, 0) else (0, 3))) : Calls Tryd.prog 25 #[.string s] w (Read2End v w) := by
  have hW := Below.refl w.heap.size w
  have hb := get_bt (⟨#[48]⟩ ++ s)
  cases o with
  | false =>
    have HE : Hid (v = (0, 3)) := by show _ = _; rw [HV.out]; exact if_neg (by simp)
    go_enter Tryd.func25, Tryd.ntmps25
    go_wp2_with fail
    go_region_held3 (fun _ => True) (trivial) (first | (go_at_call 39; (with_reducible first | refine (NY.out.at_ _).mono ?_ | refine (ND.out.at_ _).mono ?_); rintro e w1 ⟨rfl, hw⟩; obtain rfl : _ = w1 := hw) | (go_at_call 40; with_reducible refine (NM.out.at_ _).mono ?_; rintro e w1 ⟨rfl, hw1⟩; (first | replace hW := nextB hW hw1 | replace hW := nextA hW hw1 | replace hW := nextB hW.drew hw1 | replace hW := nextAA hW hw1 | replace hW := nextAD hW hw1); clear hw1) | (go_at_call 38; with_reducible refine (NS.out.at_ _).mono ?_; rintro e w1 ⟨rfl, hw⟩; obtain rfl : _ = w1 := hw))
    go_wp2_with fail
    go_ret2
    exact ⟨by rw [HE.out]; rfl, hW⟩
  | true =>
    by_cases q : 0 ≤ n0
    · have HE : Hid (v = (n0, 0)) := by show _ = _; rw [HV.out]; exact if_pos ⟨rfl, q⟩
      go_enter Tryd.func25, Tryd.ntmps25
      go_wp2_with fail
      go_region_held3 (fun _ => True) (trivial) (first | (go_at_call 39; (with_reducible first | refine (NY.out.at_ _).mono ?_ | refine (ND.out.at_ _).mono ?_); rintro e w1 ⟨rfl, hw⟩; obtain rfl : _ = w1 := hw) | (go_at_call 40; with_reducible refine (NM.out.at_ _).mono ?_; rintro e w1 ⟨rfl, hw1⟩; (first | replace hW := nextB hW hw1 | replace hW := nextA hW hw1 | replace hW := nextB hW.drew hw1 | replace hW := nextAA hW hw1 | replace hW := nextAD hW hw1); clear hw1) | (go_at_call 38; with_reducible refine (NS.out.at_ _).mono ?_; rintro e w1 ⟨rfl, hw⟩; obtain rfl : _ = w1 := hw))
      go_wp2_with fail
      go_ret2
      exact ⟨by rw [HE.out]; rfl, hW⟩
    · have HE : Hid (v = (0, 3)) := by show _ = _; rw [HV.out]; exact if_neg (by omega)
      go_enter Tryd.func25, Tryd.ntmps25
      go_wp2_with fail
      go_region_held3 (fun _ => True) (trivial) (first | (go_at_call 39; (with_reducible first | refine (NY.out.at_ _).mono ?_ | refine (ND.out.at_ _).mono ?_); rintro e w1 ⟨rfl, hw⟩; obtain rfl : _ = w1 := hw) | (go_at_call 40; with_reducible refine (NM.out.at_ _).mono ?_; rintro e w1 ⟨rfl, hw1⟩; (first | replace hW := nextB hW hw1 | replace hW := nextA hW hw1 | replace hW := nextB hW.drew hw1 | replace hW := nextAA hW hw1 | replace hW := nextAD hW hw1); clear hw1) | (go_at_call 38; with_reducible refine (NS.out.at_ _).mono ?_; rintro e w1 ⟨rfl, hw⟩; obtain rfl : _ = w1 := hw))
      go_wp2_with fail
      go_ret2
      exact ⟨by rw [HE.out]; rfl, hW⟩
set_option maxHeartbeats 2000000 in
set_option maxRecDepth 100000 in
theorem rday_eleven (s : ByteArray) (w : World) (h10 : s.size = 11) (hx : (s : ByteArray).size = 11) (c2 : bt (s) 2 = 45) (c6 : bt (s) 6 = 45) (y m d n0 : Int) (o : Bool) (v : Int × Int)
    (NY : Hid (RNumIs ((s : ByteArray).extract 7 11) y)) (NM : Hid (WhichIs ((s : ByteArray).extract 3 6) m)) (ND : Hid (RNumIs ((s : ByteArray).extract 0 2) d)) (NS : Hid (SecIs y m d n0 o))
    (HV : Hid (v = if o = true ∧ 0 ≤ n0 then (n0, 0) else (0, 3))) : Calls Tryd.prog 25 #[.string s] w (Read2End v w) := by
  have hW := Below.refl w.heap.size w
  have hb := get_bt (s)
  cases o with
  | false =>
    have HE : Hid (v = (0, 3)) := by show _ = _; rw [HV.out]; exact if_neg (by simp)
    go_enter Tryd.func25, Tryd.ntmps25
    go_wp2_with fail
    go_region_held3 (fun _ => True) (trivial) (first | (go_at_call 39; (with_reducible first | refine (NY.out.at_ _).mono ?_ | refine (ND.out.at_ _).mono ?_); rintro e w1 ⟨rfl, hw⟩; obtain rfl : _ = w1 := hw) | (go_at_call 40; with_reducible refine (NM.out.at_ _).mono ?_; rintro e w1 ⟨rfl, hw1⟩; (first | replace hW := nextB hW hw1 | replace hW := nextA hW hw1 | replace hW := nextB hW.drew hw1 | replace hW := nextAA hW hw1 | replace hW := nextAD hW hw1); clear hw1) | (go_at_call 38; with_reducible refine (NS.out.at_ _).mono ?_; rintro e w1 ⟨rfl, hw⟩; obtain rfl : _ = w1 := hw))
    go_wp2_with fail
    go_ret2
    exact ⟨by rw [HE.out]; rfl, hW⟩
  | true =>
    by_cases q : 0 ≤ n0
    · have HE : Hid (v = (n0, 0)) := by show _ = _; rw [HV.out]; exact if_pos ⟨rfl, q⟩
      go_enter Tryd.func25, Tryd.ntmps25
      go_wp2_with fail
      go_region_held3 (fun _ => True) (trivial) (first | (go_at_call 39; (with_reducible first | refine (NY.out.at_ _).mono ?_ | refine (ND.out.at_ _).mono ?_); rintro e w1 ⟨rfl, hw⟩; obtain rfl : _ = w1 := hw) | (go_at_call 40; with_reducible refine (NM.out.at_ _).mono ?_; rintro e w1 ⟨rfl, hw1⟩; (first | replace hW := nextB hW hw1 | replace hW := nextA hW hw1 | replace hW := nextB hW.drew hw1 | replace hW := nextAA hW hw1 | replace hW := nextAD hW hw1); clear hw1) | (go_at_call 38; with_reducible refine (NS.out.at_ _).mono ?_; rintro e w1 ⟨rfl, hw⟩; obtain rfl : _ = w1 := hw))
      go_wp2_with fail
      go_ret2
      exact ⟨by rw [HE.out]; rfl, hW⟩
    · have HE : Hid (v = (0, 3)) := by show _ = _; rw [HV.out]; exact if_neg (by omega)
      go_enter Tryd.func25, Tryd.ntmps25
      go_wp2_with fail
      go_region_held3 (fun _ => True) (trivial) (first | (go_at_call 39; (with_reducible first | refine (NY.out.at_ _).mono ?_ | refine (ND.out.at_ _).mono ?_); rintro e w1 ⟨rfl, hw⟩; obtain rfl : _ = w1 := hw) | (go_at_call 40; with_reducible refine (NM.out.at_ _).mono ?_; rintro e w1 ⟨rfl, hw1⟩; (first | replace hW := nextB hW hw1 | replace hW := nextA hW hw1 | replace hW := nextB hW.drew hw1 | replace hW := nextAA hW hw1 | replace hW := nextAD hW hw1); clear hw1) | (go_at_call 38; with_reducible refine (NS.out.at_ _).mono ?_; rintro e w1 ⟨rfl, hw⟩; obtain rfl : _ = w1 := hw))
      go_wp2_with fail
      go_ret2
      exact ⟨by rw [HE.out]; rfl, hW⟩
end Go.Proofs.YtfhdnppcookcoaaDoor
