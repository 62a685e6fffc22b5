/- The walk of the reference's ReadImap. -/
import Derived.Test.YtfhdnppcookcoaaDoorDateR
import Derived.Deep.DeepCutAuto
import Derived.Deep.RegionHeld3
namespace Go.Proofs.YtfhdnppcookcoaaDoor
open Go.RowKit Go.PlainAid
set_option linter.unusedVariables false
set_option linter.unusedSimpArgs false
set_option maxHeartbeats 4000000 in
set_option maxRecDepth 100000 in
theorem rimap_a (s : ByteArray) (w : World) (h26 : s.size = 26) (c2 : bt s 2 = 45) (c6 : bt s 6 = 45) (c11 : bt s 11 = 32) (c14 : bt s 14 = 58) (c17 : bt s 17 = 58) (c20 : bt s 20 = 32) (c21 : bt s 21 = 43) (c0 : bt s 0 = 32)
    (D : ByteArray) (hD : D = (s.extract 0 2).extract 1 2) (y m d n0 : Int) (o : Bool) (h mi se zh zm N : Int) (v : Int × Int)
    (NY : Hid (RNumIs (s.extract 7 11) y)) (NM : Hid (WhichIs (s.extract 3 6) m)) (ND : Hid (RNumIs D d)) (NS : Hid (SecIs y m d n0 o))
    (NH : Hid (RNumIs (s.extract 12 14) h)) (NI : Hid (RNumIs (s.extract 15 17) mi)) (NSe : Hid (RNumIs (s.extract 18 20) se)) (NZh : Hid (RNumIs (s.extract 22 24) zh)) (NZm : Hid (RNumIs (s.extract 24 26) zm))
    (b0 : -1000000000000 ≤ n0) (b1 : n0 ≤ 1000000000000) (b2 : -1 ≤ h) (b3 : h ≤ 9999) (b4 : -1 ≤ mi) (b5 : mi ≤ 9999) (b6 : -1 ≤ se) (b7 : se ≤ 9999) (b8 : -1 ≤ zh) (b9 : zh ≤ 9999) (b10 : -1 ≤ zm) (b11 : zm ≤ 9999)
    (HN : Hid (N = n0 + 3600 * h + 60 * mi + se - (3600 * zh + 60 * zm))) (HV : Hid (v = rEnd o h mi se zh zm N)) : Calls Tryd.prog 21 #[.string s] w (Read2End v w) := by
    have hW := Below.refl w.heap.size w
    have hb := get_bt s
    have e4 : bt (s.extract 0 2) 0 = bt s 0 := bt_ext s 0 2 0 (by omega) (by omega)
    have hb2 := get_bt (s.extract 0 2)
    subst hD
    go_enter Tryd.func21, Tryd.ntmps21
    go_wp2_with fail
    go_region_held3 (fun _ => True) (trivial) (first | (go_at_call 39; (with_reducible first | refine (NY.out.at_ _).mono ?_ | refine (ND.out.at_ _).mono ?_); rintro e w1 ⟨rfl, hw⟩; obtain rfl : _ = w1 := hw) | (go_at_call 40; with_reducible refine (NM.out.at_ _).mono ?_; rintro e w1 ⟨rfl, hw1⟩; (first | replace hW := nextB hW hw1 | replace hW := nextA hW hw1 | replace hW := nextB hW.drew hw1 | replace hW := nextAA hW hw1 | replace hW := nextAD hW hw1); clear hw1) | (go_at_call 38; with_reducible refine (NS.out.at_ _).mono ?_; rintro e w1 ⟨rfl, hw⟩; obtain rfl : _ = w1 := hw))
    go_wp2_with fail
    go_region_held3 (fun _ => True) (trivial) ((go_at_call 39; (with_reducible first | refine (NH.out.at_ _).mono ?_ | refine (NI.out.at_ _).mono ?_ | refine (NSe.out.at_ _).mono ?_ | refine (NZh.out.at_ _).mono ?_ | refine (NZm.out.at_ _).mono ?_); rintro e w1 ⟨rfl, hw⟩; obtain rfl : _ = w1 := hw))
    replace hW := hW.drew
    cases o with
    | false =>
      have HE : Hid (v = (0, 3)) := by show _ = _; rw [HV.out]; exact if_neg (by simp)
      go_wp2_with fail
      go_ret2
      exact ⟨by rw [HE.out]; rfl, hW⟩
    | true =>
    by_cases q1 : h < 0
    · have HE : Hid (v = (0, 3)) := by show _ = _; rw [HV.out]; exact if_neg (by omega)
      go_wp2_with fail
      go_ret2
      exact ⟨by rw [HE.out]; rfl, hW⟩
    by_cases q2 : 23 < h
    · have HE : Hid (v = (0, 3)) := by show _ = _; rw [HV.out]; exact if_neg (by omega)
      go_wp2_with fail
      go_ret2
      exact ⟨by rw [HE.out]; rfl, hW⟩
    by_cases q3 : mi < 0
    · have HE : Hid (v = (0, 3)) := by show _ = _; rw [HV.out]; exact if_neg (by omega)
      go_wp2_with fail
      go_ret2
      exact ⟨by rw [HE.out]; rfl, hW⟩
    by_cases q4 : 59 < mi
    · have HE : Hid (v = (0, 3)) := by show _ = _; rw [HV.out]; exact if_neg (by omega)
      go_wp2_with fail
      go_ret2
      exact ⟨by rw [HE.out]; rfl, hW⟩
    by_cases q5 : se < 0
    · have HE : Hid (v = (0, 3)) := by show _ = _; rw [HV.out]; exact if_neg (by omega)
      go_wp2_with fail
      go_ret2
      exact ⟨by rw [HE.out]; rfl, hW⟩
    by_cases q6 : 59 < se
    · have HE : Hid (v = (0, 3)) := by show _ = _; rw [HV.out]; exact if_neg (by omega)
      go_wp2_with fail
      go_ret2
      exact ⟨by rw [HE.out]; rfl, hW⟩
    by_cases q7 : zh < 0
    · have HE : Hid (v = (0, 3)) := by show _ = _; rw [HV.out]; exact if_neg (by omega)
      go_wp2_with fail
      go_ret2
      exact ⟨by rw [HE.out]; rfl, hW⟩
    by_cases q8 : 23 < zh
    · have HE : Hid (v = (0, 3)) := by show _ = _; rw [HV.out]; exact if_neg (by omega)
      go_wp2_with fail
      go_ret2
      exact ⟨by rw [HE.out]; rfl, hW⟩
    by_cases q9 : zm < 0
    · have HE : Hid (v = (0, 3)) := by show _ = _; rw [HV.out]; exact if_neg (by omega)
      go_wp2_with fail
      go_ret2
      exact ⟨by rw [HE.out]; rfl, hW⟩
    by_cases q10 : 59 < zm
    · have HE : Hid (v = (0, 3)) := by show _ = _; rw [HV.out]; exact if_neg (by omega)
      go_wp2_with fail
      go_ret2
      exact ⟨by rw [HE.out]; rfl, hW⟩
    go_upto_region 13 with fail
    go_cut [5] (fun t wx => t = .int .i64 N ∧ Below w.heap.size w wx)
    case first =>
      go_wp2_with fail
      go_meet
      exact ⟨by rw [HN.out], hW⟩
    case rest =>
      obtain ⟨rfl, hW2⟩ := hcut
      by_cases k0 : N < 0
      · have HE : Hid (v = (0, 3)) := by show _ = _; rw [HV.out]; exact if_neg (by omega)
        have c8 : decide (N < 0) = true := by simpa using k0
        clear k0 q10 q9 q8 q7 q6 q5 q4 q3 q2 q1 b0 b1 b2 b3 b4 b5 b6 b7 b8 b9 b10 b11 hb
        go_wp2_with fail
        go_ret2
        exact ⟨by rw [HE.out]; rfl, hW2⟩
      · have c8 : decide (N < 0) = false := by simpa using k0
        by_cases k1 : 253402300799 < N
        · have HE : Hid (v = (0, 3)) := by show _ = _; rw [HV.out]; exact if_neg (by omega)
          have c9 : decide (253402300799 < N) = true := by simpa using k1
          clear k0 k1 q10 q9 q8 q7 q6 q5 q4 q3 q2 q1 b0 b1 b2 b3 b4 b5 b6 b7 b8 b9 b10 b11 hb
          go_wp2_with fail
          go_ret2
          exact ⟨by rw [HE.out]; rfl, hW2⟩
        · have HE : Hid (v = (N, 0)) := by show _ = _; rw [HV.out]; exact if_pos ⟨rfl, by omega, by omega, by omega, by omega, by omega, by omega, by omega, by omega, by omega, by omega, by omega, by omega⟩
          have c9 : decide (253402300799 < N) = false := by simp; omega
          clear k0 k1 q10 q9 q8 q7 q6 q5 q4 q3 q2 q1 b0 b1 b2 b3 b4 b5 b6 b7 b8 b9 b10 b11 hb
          go_wp2_with fail
          go_ret2
          exact ⟨by rw [HE.out]; rfl, hW2⟩
set_option maxHeartbeats 4000000 in
set_option maxRecDepth 100000 in
theorem rimap_b (s : ByteArray) (w : World) (h26 : s.size = 26) (c2 : bt s 2 = 45) (c6 : bt s 6 = 45) (c11 : bt s 11 = 32) (c14 : bt s 14 = 58) (c17 : bt s 17 = 58) (c20 : bt s 20 = 32) (c21 : bt s 21 = 45) (c0 : bt s 0 = 32)
    (D : ByteArray) (hD : D = (s.extract 0 2).extract 1 2) (y m d n0 : Int) (o : Bool) (h mi se zh zm N : Int) (v : Int × Int)
    (NY : Hid (RNumIs (s.extract 7 11) y)) (NM : Hid (WhichIs (s.extract 3 6) m)) (ND : Hid (RNumIs D d)) (NS : Hid (SecIs y m d n0 o))
    (NH : Hid (RNumIs (s.extract 12 14) h)) (NI : Hid (RNumIs (s.extract 15 17) mi)) (NSe : Hid (RNumIs (s.extract 18 20) se)) (NZh : Hid (RNumIs (s.extract 22 24) zh)) (NZm : Hid (RNumIs (s.extract 24 26) zm))
    (b0 : -1000000000000 ≤ n0) (b1 : n0 ≤ 1000000000000) (b2 : -1 ≤ h) (b3 : h ≤ 9999) (b4 : -1 ≤ mi) (b5 : mi ≤ 9999) (b6 : -1 ≤ se) (b7 : se ≤ 9999) (b8 : -1 ≤ zh) (b9 : zh ≤ 9999) (b10 : -1 ≤ zm) (b11 : zm ≤ 9999)
    (HN : Hid (N = n0 + 3600 * h + 60 * mi + se + (3600 * zh + 60 * zm))) (HV : Hid (v = rEnd o h mi se zh zm N)) : Calls Tryd.prog 21 #[.string s] w (Read2End v w) := by
    have hW := Below.refl w.heap.size w
    have hb := get_bt s
    have e4 : bt (s.extract 0 2) 0 = bt s 0 := bt_ext s 0 2 0 (by omega) (by omega)
    have hb2 := get_bt (s.extract 0 2)
    subst hD
    go_enter Tryd.func21, Tryd.ntmps21
    go_wp2_with fail
    go_region_held3 (fun _ => True) (trivial) (first | (go_at_call 39; (with_reducible first | refine (NY.out.at_ _).mono ?_ | refine (ND.out.at_ _).mono ?_); rintro e w1 ⟨rfl, hw⟩; obtain rfl : _ = w1 := hw) | (go_at_call 40; with_reducible refine (NM.out.at_ _).mono ?_; rintro e w1 ⟨rfl, hw1⟩; (first | replace hW := nextB hW hw1 | replace hW := nextA hW hw1 | replace hW := nextB hW.drew hw1 | replace hW := nextAA hW hw1 | replace hW := nextAD hW hw1); clear hw1) | (go_at_call 38; with_reducible refine (NS.out.at_ _).mono ?_; rintro e w1 ⟨rfl, hw⟩; obtain rfl : _ = w1 := hw))
    go_wp2_with fail
    go_region_held3 (fun _ => True) (trivial) ((go_at_call 39; (with_reducible first | refine (NH.out.at_ _).mono ?_ | refine (NI.out.at_ _).mono ?_ | refine (NSe.out.at_ _).mono ?_ | refine (NZh.out.at_ _).mono ?_ | refine (NZm.out.at_ _).mono ?_); rintro e w1 ⟨rfl, hw⟩; obtain rfl : _ = w1 := hw))
    replace hW := hW.drew
    cases o with
    | false =>
      have HE : Hid (v = (0, 3)) := by show _ = _; rw [HV.out]; exact if_neg (by simp)
      go_wp2_with fail
      go_ret2
      exact ⟨by rw [HE.out]; rfl, hW⟩
    | true =>
    by_cases q1 : h < 0
    · have HE : Hid (v = (0, 3)) := by show _ = _; rw [HV.out]; exact if_neg (by omega)
      go_wp2_with fail
      go_ret2
      exact ⟨by rw [HE.out]; rfl, hW⟩
    by_cases q2 : 23 < h
    · have HE : Hid (v = (0, 3)) := by show _ = _; rw [HV.out]; exact if_neg (by omega)
      go_wp2_with fail
      go_ret2
      exact ⟨by rw [HE.out]; rfl, hW⟩
    by_cases q3 : mi < 0
    · have HE : Hid (v = (0, 3)) := by show _ = _; rw [HV.out]; exact if_neg (by omega)
      go_wp2_with fail
      go_ret2
      exact ⟨by rw [HE.out]; rfl, hW⟩
    by_cases q4 : 59 < mi
    · have HE : Hid (v = (0, 3)) := by show _ = _; rw [HV.out]; exact if_neg (by omega)
      go_wp2_with fail
      go_ret2
      exact ⟨by rw [HE.out]; rfl, hW⟩
    by_cases q5 : se < 0
    · have HE : Hid (v = (0, 3)) := by show _ = _; rw [HV.out]; exact if_neg (by omega)
      go_wp2_with fail
      go_ret2
      exact ⟨by rw [HE.out]; rfl, hW⟩
    by_cases q6 : 59 < se
    · have HE : Hid (v = (0, 3)) := by show _ = _; rw [HV.out]; exact if_neg (by omega)
      go_wp2_with fail
      go_ret2
      exact ⟨by rw [HE.out]; rfl, hW⟩
    by_cases q7 : zh < 0
    · have HE : Hid (v = (0, 3)) := by show _ = _; rw [HV.out]; exact if_neg (by omega)
      go_wp2_with fail
      go_ret2
      exact ⟨by rw [HE.out]; rfl, hW⟩
    by_cases q8 : 23 < zh
    · have HE : Hid (v = (0, 3)) := by show _ = _; rw [HV.out]; exact if_neg (by omega)
      go_wp2_with fail
      go_ret2
      exact ⟨by rw [HE.out]; rfl, hW⟩
    by_cases q9 : zm < 0
    · have HE : Hid (v = (0, 3)) := by show _ = _; rw [HV.out]; exact if_neg (by omega)
      go_wp2_with fail
      go_ret2
      exact ⟨by rw [HE.out]; rfl, hW⟩
    by_cases q10 : 59 < zm
    · have HE : Hid (v = (0, 3)) := by show _ = _; rw [HV.out]; exact if_neg (by omega)
      go_wp2_with fail
      go_ret2
      exact ⟨by rw [HE.out]; rfl, hW⟩
    go_upto_region 13 with fail
    go_cut [5] (fun t wx => t = .int .i64 N ∧ Below w.heap.size w wx)
    case first =>
      go_wp2_with fail
      go_meet
      exact ⟨by rw [HN.out], hW⟩
    case rest =>
      obtain ⟨rfl, hW2⟩ := hcut
      by_cases k0 : N < 0
      · have HE : Hid (v = (0, 3)) := by show _ = _; rw [HV.out]; exact if_neg (by omega)
        have c8 : decide (N < 0) = true := by simpa using k0
        clear k0 q10 q9 q8 q7 q6 q5 q4 q3 q2 q1 b0 b1 b2 b3 b4 b5 b6 b7 b8 b9 b10 b11 hb
        go_wp2_with fail
        go_ret2
        exact ⟨by rw [HE.out]; rfl, hW2⟩
      · have c8 : decide (N < 0) = false := by simpa using k0
        by_cases k1 : 253402300799 < N
        · have HE : Hid (v = (0, 3)) := by show _ = _; rw [HV.out]; exact if_neg (by omega)
          have c9 : decide (253402300799 < N) = true := by simpa using k1
          clear k0 k1 q10 q9 q8 q7 q6 q5 q4 q3 q2 q1 b0 b1 b2 b3 b4 b5 b6 b7 b8 b9 b10 b11 hb
          go_wp2_with fail
          go_ret2
          exact ⟨by rw [HE.out]; rfl, hW2⟩
        · have HE : Hid (v = (N, 0)) := by show _ = _; rw [HV.out]; exact if_pos ⟨rfl, by omega, by omega, by omega, by omega, by omega, by omega, by omega, by omega, by omega, by omega, by omega, by omega⟩
          have c9 : decide (253402300799 < N) = false := by simp; omega
          clear k0 k1 q10 q9 q8 q7 q6 q5 q4 q3 q2 q1 b0 b1 b2 b3 b4 b5 b6 b7 b8 b9 b10 b11 hb
          go_wp2_with fail
          go_ret2
          exact ⟨by rw [HE.out]; rfl, hW2⟩
set_option maxHeartbeats 4000000 in
set_option maxRecDepth 100000 in
theorem rimap_c (s : ByteArray) (w : World) (h26 : s.size = 26) (c2 : bt s 2 = 45) (c6 : bt s 6 = 45) (c11 : bt s 11 = 32) (c14 : bt s 14 = 58) (c17 : bt s 17 = 58) (c20 : bt s 20 = 32) (c21 : bt s 21 = 43) (c0 : (bt s 0 == 32) = false)
    (D : ByteArray) (hD : D = s.extract 0 2) (y m d n0 : Int) (o : Bool) (h mi se zh zm N : Int) (v : Int × Int)
    (NY : Hid (RNumIs (s.extract 7 11) y)) (NM : Hid (WhichIs (s.extract 3 6) m)) (ND : Hid (RNumIs D d)) (NS : Hid (SecIs y m d n0 o))
    (NH : Hid (RNumIs (s.extract 12 14) h)) (NI : Hid (RNumIs (s.extract 15 17) mi)) (NSe : Hid (RNumIs (s.extract 18 20) se)) (NZh : Hid (RNumIs (s.extract 22 24) zh)) (NZm : Hid (RNumIs (s.extract 24 26) zm))
    (b0 : -1000000000000 ≤ n0) (b1 : n0 ≤ 1000000000000) (b2 : -1 ≤ h) (b3 : h ≤ 9999) (b4 : -1 ≤ mi) (b5 : mi ≤ 9999) (b6 : -1 ≤ se) (b7 : se ≤ 9999) (b8 : -1 ≤ zh) (b9 : zh ≤ 9999) (b10 : -1 ≤ zm) (b11 : zm ≤ 9999)
    (HN : Hid (N = n0 + 3600 * h + 60 * mi + se - (3600 * zh + 60 * zm))) (HV : Hid (v = rEnd o h mi se zh zm N)) : Calls Tryd.prog 21 #[.string s] w (Read2End v w) := by
    have hW := Below.refl w.heap.size w
    have hb := get_bt s
    have e4 : bt (s.extract 0 2) 0 = bt s 0 := bt_ext s 0 2 0 (by omega) (by omega)
    have hb2 := get_bt (s.extract 0 2)
    subst hD
    go_enter Tryd.func21, Tryd.ntmps21
    go_wp2_with fail
    go_region_held3 (fun _ => True) (trivial) (first | (go_at_call 39; (with_reducible first | refine (NY.out.at_ _).mono ?_ | refine (ND.out.at_ _).mono ?_); rintro e w1 ⟨rfl, hw⟩; obtain rfl : _ = w1 := hw) | (go_at_call 40; with_reducible refine (NM.out.at_ _).mono ?_; rintro e w1 ⟨rfl, hw1⟩; (first | replace hW := nextB hW hw1 | replace hW := nextA hW hw1 | replace hW := nextB hW.drew hw1 | replace hW := nextAA hW hw1 | replace hW := nextAD hW hw1); clear hw1) | (go_at_call 38; with_reducible refine (NS.out.at_ _).mono ?_; rintro e w1 ⟨rfl, hw⟩; obtain rfl : _ = w1 := hw))
    go_wp2_with fail
    go_region_held3 (fun _ => True) (trivial) ((go_at_call 39; (with_reducible first | refine (NH.out.at_ _).mono ?_ | refine (NI.out.at_ _).mono ?_ | refine (NSe.out.at_ _).mono ?_ | refine (NZh.out.at_ _).mono ?_ | refine (NZm.out.at_ _).mono ?_); rintro e w1 ⟨rfl, hw⟩; obtain rfl : _ = w1 := hw))
    replace hW := hW.drew
    cases o with
    | false =>
      have HE : Hid (v = (0, 3)) := by show _ = _; rw [HV.out]; exact if_neg (by simp)
      go_wp2_with fail
      go_ret2
      exact ⟨by rw [HE.out]; rfl, hW⟩
    | true =>
    by_cases q1 : h < 0
    · have HE : Hid (v = (0, 3)) := by show _ = _; rw [HV.out]; exact if_neg (by omega)
      go_wp2_with fail
      go_ret2
      exact ⟨by rw [HE.out]; rfl, hW⟩
    by_cases q2 : 23 < h
    · have HE : Hid (v = (0, 3)) := by show _ = _; rw [HV.out]; exact if_neg (by omega)
      go_wp2_with fail
      go_ret2
      exact ⟨by rw [HE.out]; rfl, hW⟩
    by_cases q3 : mi < 0
    · have HE : Hid (v = (0, 3)) := by show _ = _; rw [HV.out]; exact if_neg (by omega)
      go_wp2_with fail
      go_ret2
      exact ⟨by rw [HE.out]; rfl, hW⟩
    by_cases q4 : 59 < mi
    · have HE : Hid (v = (0, 3)) := by show _ = _; rw [HV.out]; exact if_neg (by omega)
      go_wp2_with fail
      go_ret2
      exact ⟨by rw [HE.out]; rfl, hW⟩
    by_cases q5 : se < 0
    · have HE : Hid (v = (0, 3)) := by show _ = _; rw [HV.out]; exact if_neg (by omega)
      go_wp2_with fail
      go_ret2
      exact ⟨by rw [HE.out]; rfl, hW⟩
    by_cases q6 : 59 < se
    · have HE : Hid (v = (0, 3)) := by show _ = _; rw [HV.out]; exact if_neg (by omega)
      go_wp2_with fail
      go_ret2
      exact ⟨by rw [HE.out]; rfl, hW⟩
    by_cases q7 : zh < 0
    · have HE : Hid (v = (0, 3)) := by show _ = _; rw [HV.out]; exact if_neg (by omega)
      go_wp2_with fail
      go_ret2
      exact ⟨by rw [HE.out]; rfl, hW⟩
    by_cases q8 : 23 < zh
    · have HE : Hid (v = (0, 3)) := by show _ = _; rw [HV.out]; exact if_neg (by omega)
      go_wp2_with fail
      go_ret2
      exact ⟨by rw [HE.out]; rfl, hW⟩
    by_cases q9 : zm < 0
    · have HE : Hid (v = (0, 3)) := by show _ = _; rw [HV.out]; exact if_neg (by omega)
      go_wp2_with fail
      go_ret2
      exact ⟨by rw [HE.out]; rfl, hW⟩
    by_cases q10 : 59 < zm
    · have HE : Hid (v = (0, 3)) := by show _ = _; rw [HV.out]; exact if_neg (by omega)
      go_wp2_with fail
      go_ret2
      exact ⟨by rw [HE.out]; rfl, hW⟩
    go_upto_region 13 with fail
    go_cut [5] (fun t wx => t = .int .i64 N ∧ Below w.heap.size w wx)
    case first =>
      go_wp2_with fail
      go_meet
      exact ⟨by rw [HN.out], hW⟩
    case rest =>
      obtain ⟨rfl, hW2⟩ := hcut
      by_cases k0 : N < 0
      · have HE : Hid (v = (0, 3)) := by show _ = _; rw [HV.out]; exact if_neg (by omega)
        have c8 : decide (N < 0) = true := by simpa using k0
        clear k0 q10 q9 q8 q7 q6 q5 q4 q3 q2 q1 b0 b1 b2 b3 b4 b5 b6 b7 b8 b9 b10 b11 hb
        go_wp2_with fail
        go_ret2
        exact ⟨by rw [HE.out]; rfl, hW2⟩
      · have c8 : decide (N < 0) = false := by simpa using k0
        by_cases k1 : 253402300799 < N
        · have HE : Hid (v = (0, 3)) := by show _ = _; rw [HV.out]; exact if_neg (by omega)
          have c9 : decide (253402300799 < N) = true := by simpa using k1
          clear k0 k1 q10 q9 q8 q7 q6 q5 q4 q3 q2 q1 b0 b1 b2 b3 b4 b5 b6 b7 b8 b9 b10 b11 hb
          go_wp2_with fail
          go_ret2
          exact ⟨by rw [HE.out]; rfl, hW2⟩
        · have HE : Hid (v = (N, 0)) := by show _ = _; rw [HV.out]; exact if_pos ⟨rfl, by omega, by omega, by omega, by omega, by omega, by omega, by omega, by omega, by omega, by omega, by omega, by omega⟩
          have c9 : decide (253402300799 < N) = false := by simp; omega
          clear k0 k1 q10 q9 q8 q7 q6 q5 q4 q3 q2 q1 b0 b1 b2 b3 b4 b5 b6 b7 b8 b9 b10 b11 hb
          go_wp2_with fail
          go_ret2
          exact ⟨by rw [HE.out]; rfl, hW2⟩
set_option maxHeartbeats 4000000 in
set_option maxRecDepth 100000 in
theorem rimap_d (s : ByteArray) (w : World) (h26 : s.size = 26) (c2 : bt s 2 = 45) (c6 : bt s 6 = 45) (c11 : bt s 11 = 32) (c14 : bt s 14 = 58) (c17 : bt s 17 = 58) (c20 : bt s 20 = 32) (c21 : bt s 21 = 45) (c0 : (bt s 0 == 32) = false)
    (D : ByteArray) (hD : D = s.extract 0 2) (y m d n0 : Int) (o : Bool) (h mi se zh zm N : Int) (v : Int × Int)
    (NY : Hid (RNumIs (s.extract 7 11) y)) (NM : Hid (WhichIs (s.extract 3 6) m)) (ND : Hid (RNumIs D d)) (NS : Hid (SecIs y m d n0 o))
    (NH : Hid (RNumIs (s.extract 12 14) h)) (NI : Hid (RNumIs (s.extract 15 17) mi)) (NSe : Hid (RNumIs (s.extract 18 20) se)) (NZh : Hid (RNumIs (s.extract 22 24) zh)) (NZm : Hid (RNumIs (s.extract 24 26) zm))
    (b0 : -1000000000000 ≤ n0) (b1 : n0 ≤ 1000000000000) (b2 : -1 ≤ h) (b3 : h ≤ 9999) (b4 : -1 ≤ mi) (b5 : mi ≤ 9999) (b6 : -1 ≤ se) (b7 : se ≤ 9999) (b8 : -1 ≤ zh) (b9 : zh ≤ 9999) (b10 : -1 ≤ zm) (b11 : zm ≤ 9999)
    (HN : Hid (N = n0 + 3600 * h + 60 * mi + se + (3600 * zh + 60 * zm))) (HV : Hid (v = rEnd o h mi se zh zm N)) : Calls Tryd.prog 21 #[.string s] w (Read2End v w) := by
    have hW := Below.refl w.heap.size w
    have hb := get_bt s
    have e4 : bt (s.extract 0 2) 0 = bt s 0 := bt_ext s 0 2 0 (by omega) (by omega)
    have hb2 := get_bt (s.extract 0 2)
    subst hD
    go_enter Tryd.func21, Tryd.ntmps21
    go_wp2_with fail
    go_region_held3 (fun _ => True) (trivial) (first | (go_at_call 39; (with_reducible first | refine (NY.out.at_ _).mono ?_ | refine (ND.out.at_ _).mono ?_); rintro e w1 ⟨rfl, hw⟩; obtain rfl : _ = w1 := hw) | (go_at_call 40; with_reducible refine (NM.out.at_ _).mono ?_; rintro e w1 ⟨rfl, hw1⟩; (first | replace hW := nextB hW hw1 | replace hW := nextA hW hw1 | replace hW := nextB hW.drew hw1 | replace hW := nextAA hW hw1 | replace hW := nextAD hW hw1); clear hw1) | (go_at_call 38; with_reducible refine (NS.out.at_ _).mono ?_; rintro e w1 ⟨rfl, hw⟩; obtain rfl : _ = w1 := hw))
    go_wp2_with fail
    go_region_held3 (fun _ => True) (trivial) ((go_at_call 39; (with_reducible first | refine (NH.out.at_ _).mono ?_ | refine (NI.out.at_ _).mono ?_ | refine (NSe.out.at_ _).mono ?_ | refine (NZh.out.at_ _).mono ?_ | refine (NZm.out.at_ _).mono ?_); rintro e w1 ⟨rfl, hw⟩; obtain rfl : _ = w1 := hw))
    replace hW := hW.drew
    cases o with
    | false =>
      have HE : Hid (v = (0, 3)) := by show _ = _; rw [HV.out]; exact if_neg (by simp)
      go_wp2_with fail
      go_ret2
      exact ⟨by rw [HE.out]; rfl, hW⟩
    | true =>
    by_cases q1 : h < 0
    · have HE : Hid (v = (0, 3)) := by show _ = _; rw [HV.out]; exact if_neg (by omega)
      go_wp2_with fail
      go_ret2
      exact ⟨by rw [HE.out]; rfl, hW⟩
    by_cases q2 : 23 < h
    · have HE : Hid (v = (0, 3)) := by show _ = _; rw [HV.out]; exact if_neg (by omega)
      go_wp2_with fail
      go_ret2
      exact ⟨by rw [HE.out]; rfl, hW⟩
    by_cases q3 : mi < 0
    · have HE : Hid (v = (0, 3)) := by show _ = _; rw [HV.out]; exact if_neg (by omega)
      go_wp2_with fail
      go_ret2
      exact ⟨by rw [HE.out]; rfl, hW⟩
    by_cases q4 : 59 < mi
    · have HE : Hid (v = (0, 3)) := by show _ = _; rw [HV.out]; exact if_neg (by omega)
      go_wp2_with fail
      go_ret2
      exact ⟨by rw [HE.out]; rfl, hW⟩
    by_cases q5 : se < 0
    · have HE : Hid (v = (0, 3)) := by show _ = _; rw [HV.out]; exact if_neg (by omega)
      go_wp2_with fail
      go_ret2
      exact ⟨by rw [HE.out]; rfl, hW⟩
    by_cases q6 : 59 < se
    · have HE : Hid (v = (0, 3)) := by show _ = _; rw [HV.out]; exact if_neg (by omega)
      go_wp2_with fail
      go_ret2
      exact ⟨by rw [HE.out]; rfl, hW⟩
    by_cases q7 : zh < 0
    · have HE : Hid (v = (0, 3)) := by show _ = _; rw [HV.out]; exact if_neg (by omega)
      go_wp2_with fail
      go_ret2
      exact ⟨by rw [HE.out]; rfl, hW⟩
    by_cases q8 : 23 < zh
    · have HE : Hid (v = (0, 3)) := by show _ = _; rw [HV.out]; exact if_neg (by omega)
      go_wp2_with fail
      go_ret2
      exact ⟨by rw [HE.out]; rfl, hW⟩
    by_cases q9 : zm < 0
    · have HE : Hid (v = (0, 3)) := by show _ = _; rw [HV.out]; exact if_neg (by omega)
      go_wp2_with fail
      go_ret2
      exact ⟨by rw [HE.out]; rfl, hW⟩
    by_cases q10 : 59 < zm
    · have HE : Hid (v = (0, 3)) := by show _ = _; rw [HV.out]; exact if_neg (by omega)
      go_wp2_with fail
      go_ret2
      exact ⟨by rw [HE.out]; rfl, hW⟩
    go_upto_region 13 with fail
    go_cut [5] (fun t wx => t = .int .i64 N ∧ Below w.heap.size w wx)
    case first =>
      go_wp2_with fail
      go_meet
      exact ⟨by rw [HN.out], hW⟩
    case rest =>
      obtain ⟨rfl, hW2⟩ := hcut
      by_cases k0 : N < 0
      · have HE : Hid (v = (0, 3)) := by show _ = _; rw [HV.out]; exact if_neg (by omega)
        have c8 : decide (N < 0) = true := by simpa using k0
        clear k0 q10 q9 q8 q7 q6 q5 q4 q3 q2 q1 b0 b1 b2 b3 b4 b5 b6 b7 b8 b9 b10 b11 hb
        go_wp2_with fail
        go_ret2
        exact ⟨by rw [HE.out]; rfl, hW2⟩
      · have c8 : decide (N < 0) = false := by simpa using k0
        by_cases k1 : 253402300799 < N
        · have HE : Hid (v = (0, 3)) := by show _ = _; rw [HV.out]; exact if_neg (by omega)
          have c9 : decide (253402300799 < N) = true := by simpa using k1
          clear k0 k1 q10 q9 q8 q7 q6 q5 q4 q3 q2 q1 b0 b1 b2 b3 b4 b5 b6 b7 b8 b9 b10 b11 hb
          go_wp2_with fail
          go_ret2
          exact ⟨by rw [HE.out]; rfl, hW2⟩
        · have HE : Hid (v = (N, 0)) := by show _ = _; rw [HV.out]; exact if_pos ⟨rfl, by omega, by omega, by omega, by omega, by omega, by omega, by omega, by omega, by omega, by omega, by omega, by omega⟩
          have c9 : decide (253402300799 < N) = false := by simp; omega
          clear k0 k1 q10 q9 q8 q7 q6 q5 q4 q3 q2 q1 b0 b1 b2 b3 b4 b5 b6 b7 b8 b9 b10 b11 hb
          go_wp2_with fail
          go_ret2
          exact ⟨by rw [HE.out]; rfl, hW2⟩
end Go.Proofs.YtfhdnppcookcoaaDoor
