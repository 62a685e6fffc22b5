/- The walks of the reference's ReadImap and ReadDay, joined. -/
import Derived.Test.YtfhdnppcookcoaaDoorDate29
import Derived.Test.YtfhdnppcookcoaaDoorDate31
import Derived.Test.YtfhdnppcookcoaaDoorDate33
namespace Go.Proofs.YtfhdnppcookcoaaDoor
open Go.RowKit Go.PlainAid
set_option linter.unusedVariables false
set_option linter.unusedSimpArgs false
set_option maxRecDepth 100000 in
set_option maxHeartbeats 1000000 in
theorem rReadImap_any (s : ByteArray) (w : World) (hs : s.size ≤ 1000) : Calls Tryd.prog 21 #[.string s] w (Read2End (rReadImapV s) w) := by
  by_cases hf : s.size = 26 ∧ bt s 2 = 45 ∧ bt s 6 = 45 ∧ bt s 11 = 32 ∧ bt s 14 = 58 ∧ bt s 17 = 58 ∧ bt s 20 = 32 ∧ (bt s 21 = 43 ∨ bt s 21 = 45)
  · obtain ⟨h26, c2, c6, c11, c14, c17, c20, c21⟩ := hf
    have f1 := ext_le s 7 11 (by omega)
    have f2 := ext_le s 3 6 (by omega)
    have f3 := ext_le s 12 14 (by omega)
    have f4 := ext_le s 15 17 (by omega)
    have f5 := ext_le s 18 20 (by omega)
    have f6 := ext_le s 22 24 (by omega)
    have f7 := ext_le s 24 26 (by omega)
    have f8 : (rdayW s).size ≤ 2 := by
      unfold rdayW
      have e := ext_le s 0 2 (by omega)
      split
      · have := ext_le (s.extract 0 2) 1 2 (by omega); omega
      · omega
    have a1 := rnumV_le (s.extract 7 11) (by omega)
    have a2 := monV_le (s.extract 3 6)
    have a3 := rnumV_le (rdayW s) (by omega)
    have a4 := rnumV_le (s.extract 12 14) (by omega)
    have a5 := rnumV_le (s.extract 15 17) (by omega)
    have a6 := rnumV_le (s.extract 18 20) (by omega)
    have a8 := rnumV_le (s.extract 22 24) (by omega)
    have a9 := rnumV_le (s.extract 24 26) (by omega)
    have a7 := secV_le (rnumV (s.extract 7 11)) (monV (s.extract 3 6)) (rnumV (rdayW s)) a1.2 (by omega)
    have NS : Hid (SecIs (rnumV (s.extract 7 11)) (monV (s.extract 3 6)) (rnumV (rdayW s)) (secV (rnumV (s.extract 7 11)) (monV (s.extract 3 6)) (rnumV (rdayW s))).1 (secV (rnumV (s.extract 7 11)) (monV (s.extract 3 6)) (rnumV (rdayW s))).2) :=
      fun w => rseconds_any _ _ _ w a1.1 a1.2 (by omega) (by omega) a3.1 a3.2
    have NM : Hid (WhichIs (s.extract 3 6) (monV (s.extract 3 6))) := fun w => rwhich_any _ w (by omega)
    have HV0 : rReadImapV s = _ := if_pos ⟨h26, c2, c6, c11, c14, c17, c20, c21⟩
    by_cases h32 : bt s 0 = 32
    · have hd : rdayW s = (s.extract 0 2).extract 1 2 := if_pos h32
      rcases c21 with c21 | c21
      · refine rimap_a s w h26 c2 c6 c11 c14 c17 c20 c21 h32 _ hd _ _ _ _ _ _ _ _ _ _ _ _ (rnum_is _ (by omega)) NM (rnum_is _ (by omega)) NS (rnum_is _ (by omega)) (rnum_is _ (by omega)) (rnum_is _ (by omega)) (rnum_is _ (by omega)) (rnum_is _ (by omega)) a7.1 a7.2 a4.1 a4.2 a5.1 a5.2 a6.1 a6.2 a8.1 a8.2 a9.1 a9.2 rfl ?_
        show _ = _
        rw [HV0, c21]; rfl
      · refine rimap_b s w h26 c2 c6 c11 c14 c17 c20 c21 h32 _ hd _ _ _ _ _ _ _ _ _ _ _ _ (rnum_is _ (by omega)) NM (rnum_is _ (by omega)) NS (rnum_is _ (by omega)) (rnum_is _ (by omega)) (rnum_is _ (by omega)) (rnum_is _ (by omega)) (rnum_is _ (by omega)) a7.1 a7.2 a4.1 a4.2 a5.1 a5.2 a6.1 a6.2 a8.1 a8.2 a9.1 a9.2 rfl ?_
        show _ = _
        rw [HV0, c21]
        have e : ∀ a z : Int, a - -z = a + z := fun a z => by omega
        show rEnd _ _ _ _ _ _ (_ - -(_)) = _
        rw [e]
    · have h33 : (bt s 0 == 32) = false := by rw [beq_eq_false_iff_ne]; exact h32
      have hd : rdayW s = s.extract 0 2 := if_neg h32
      rcases c21 with c21 | c21
      · refine rimap_c s w h26 c2 c6 c11 c14 c17 c20 c21 h33 _ hd _ _ _ _ _ _ _ _ _ _ _ _ (rnum_is _ (by omega)) NM (rnum_is _ (by omega)) NS (rnum_is _ (by omega)) (rnum_is _ (by omega)) (rnum_is _ (by omega)) (rnum_is _ (by omega)) (rnum_is _ (by omega)) a7.1 a7.2 a4.1 a4.2 a5.1 a5.2 a6.1 a6.2 a8.1 a8.2 a9.1 a9.2 rfl ?_
        show _ = _
        rw [HV0, c21]; rfl
      · refine rimap_d s w h26 c2 c6 c11 c14 c17 c20 c21 h33 _ hd _ _ _ _ _ _ _ _ _ _ _ _ (rnum_is _ (by omega)) NM (rnum_is _ (by omega)) NS (rnum_is _ (by omega)) (rnum_is _ (by omega)) (rnum_is _ (by omega)) (rnum_is _ (by omega)) (rnum_is _ (by omega)) a7.1 a7.2 a4.1 a4.2 a5.1 a5.2 a6.1 a6.2 a8.1 a8.2 a9.1 a9.2 rfl ?_
        show _ = _
        rw [HV0, c21]
        have e : ∀ a z : Int, a - -z = a + z := fun a z => by omega
        show rEnd _ _ _ _ _ _ (_ - -(_)) = _
        rw [e]
  · rw [show rReadImapV s = (0, 3) from if_neg hf]
    have hW := Below.refl w.heap.size w
    have hb := get_bt s
    by_cases q0 : s.size = 26
    rotate_left
    · go_enter Tryd.func21, Tryd.ntmps21
      go_wp2_with fail
      go_ret2
      exact ⟨rfl, hW⟩
    have hcs : (bt s 2 == 45) = false ∨ (bt s 2 = 45 ∧ (bt s 6 == 45) = false) ∨ (bt s 2 = 45 ∧ bt s 6 = 45 ∧ (bt s 11 == 32) = false) ∨ (bt s 2 = 45 ∧ bt s 6 = 45 ∧ bt s 11 = 32 ∧ (bt s 14 == 58) = false) ∨ (bt s 2 = 45 ∧ bt s 6 = 45 ∧ bt s 11 = 32 ∧ bt s 14 = 58 ∧ (bt s 17 == 58) = false) ∨
        (bt s 2 = 45 ∧ bt s 6 = 45 ∧ bt s 11 = 32 ∧ bt s 14 = 58 ∧ bt s 17 = 58 ∧ (bt s 20 == 32) = false) ∨ (bt s 2 = 45 ∧ bt s 6 = 45 ∧ bt s 11 = 32 ∧ bt s 14 = 58 ∧ bt s 17 = 58 ∧ bt s 20 = 32 ∧ (bt s 21 == 43) = false ∧ (bt s 21 == 45) = false) := by
      simp only [beq_eq_false_iff_ne]
      by_cases q1 : bt s 2 = 45
      rotate_left
      · exact .inl q1
      refine .inr ?_
      by_cases q2 : bt s 6 = 45
      rotate_left
      · exact .inl ⟨q1, q2⟩
      refine .inr ?_
      by_cases q3 : bt s 11 = 32
      rotate_left
      · exact .inl ⟨q1, q2, q3⟩
      refine .inr ?_
      by_cases q4 : bt s 14 = 58
      rotate_left
      · exact .inl ⟨q1, q2, q3, q4⟩
      refine .inr ?_
      by_cases q5 : bt s 17 = 58
      rotate_left
      · exact .inl ⟨q1, q2, q3, q4, q5⟩
      refine .inr ?_
      by_cases q6 : bt s 20 = 32
      rotate_left
      · exact .inl ⟨q1, q2, q3, q4, q5, q6⟩
      refine .inr ⟨q1, q2, q3, q4, q5, q6, fun e => hf ⟨q0, q1, q2, q3, q4, q5, q6, .inl e⟩, fun e => hf ⟨q0, q1, q2, q3, q4, q5, q6, .inr e⟩⟩
    clear hf
    rcases hcs with q1 | ⟨q1, q2⟩ | ⟨q1, q2, q3⟩ | ⟨q1, q2, q3, q4⟩ | ⟨q1, q2, q3, q4, q5⟩ | ⟨q1, q2, q3, q4, q5, q6⟩ | ⟨q1, q2, q3, q4, q5, q6, q7, q8⟩
    all_goals
      try (have n1 : (bt s 2 != 45) = true := by simp only [bne, q1]; rfl)
      try (have n2 : (bt s 6 != 45) = true := by simp only [bne, q2]; rfl)
      try (have n3 : (bt s 11 != 32) = true := by simp only [bne, q3]; rfl)
      try (have n4 : (bt s 14 != 58) = true := by simp only [bne, q4]; rfl)
      try (have n5 : (bt s 17 != 58) = true := by simp only [bne, q5]; rfl)
      try (have n6 : (bt s 20 != 32) = true := by simp only [bne, q6]; rfl)
      try (have n7 : (bt s 21 != 43) = true := by simp only [bne, q7]; rfl)
      try (have n8 : (bt s 21 != 45) = true := by simp only [bne, q8]; rfl)
      go_enter Tryd.func21, Tryd.ntmps21
      go_wp2_with fail
      go_ret2
      exact ⟨rfl, hW⟩
set_option maxRecDepth 100000 in
theorem rReadDay_any (s : ByteArray) (w : World) (hs : s.size ≤ 1000) : Calls Tryd.prog 25 #[.string s] w (Read2End (rReadDayV s) w) := by
  have hW := Below.refl w.heap.size w
  by_cases hf : (rDayX s).size = 11 ∧ bt (rDayX s) 2 = 45 ∧ bt (rDayX s) 6 = 45
  · have HV0 : rReadDayV s = _ := if_pos hf
    obtain ⟨h11, c2, c6⟩ := hf
    obtain ⟨X, hX⟩ : ∃ X, X = rDayX s := ⟨_, rfl⟩
    have f1 := ext_le X 7 11 (by omega)
    have f2 := ext_le X 3 6 (by omega)
    have f3 := ext_le X 0 2 (by omega)
    have a1 := rnumV_le (X.extract 7 11) (by omega)
    have a2 := monV_le (X.extract 3 6)
    have a3 := rnumV_le (X.extract 0 2) (by omega)
    have NS : Hid (SecIs (rnumV (X.extract 7 11)) (monV (X.extract 3 6)) (rnumV (X.extract 0 2)) (secV (rnumV (X.extract 7 11)) (monV (X.extract 3 6)) (rnumV (X.extract 0 2))).1 (secV (rnumV (X.extract 7 11)) (monV (X.extract 3 6)) (rnumV (X.extract 0 2))).2) :=
      fun w => rseconds_any _ _ _ w a1.1 a1.2 (by omega) (by omega) a3.1 a3.2
    have NM : Hid (WhichIs (X.extract 3 6) (monV (X.extract 3 6))) := fun w => rwhich_any _ w (by omega)
    have NY : Hid (RNumIs (X.extract 7 11) (rnumV (X.extract 7 11))) := rnum_is _ (by omega)
    have ND : Hid (RNumIs (X.extract 0 2) (rnumV (X.extract 0 2))) := rnum_is _ (by omega)
    rw [← hX] at HV0 h11 c2 c6
    by_cases h10 : s.size = 10
    · have hx : X = ⟨#[48]⟩ ++ s := by rw [hX]; exact if_pos h10
      subst hx
      exact rday_ten s w h10 h11 c2 c6 _ _ _ _ _ _ NY NM ND NS HV0
    · have hx : X = s := by rw [hX]; exact if_neg h10
      subst hx
      exact rday_eleven _ w h11 h11 c2 c6 _ _ _ _ _ _ NY NM ND NS HV0
  · rw [show rReadDayV s = (0, 3) from if_neg hf]
    by_cases h10 : s.size = 10
    · have hx : rDayX s = ⟨#[48]⟩ ++ s := if_pos h10
      have h11 : (⟨#[48]⟩ ++ s : ByteArray).size = 11 := by rw [ByteArray.size_append, h10]; rfl
      rw [hx] at hf
      have hb := get_bt (⟨#[48]⟩ ++ s)
      by_cases q1 : bt (⟨#[48]⟩ ++ s) 2 = 45
      · have q2 : (bt (⟨#[48]⟩ ++ s) 6 == 45) = false := by rw [beq_eq_false_iff_ne]; exact fun e => hf ⟨h11, q1, e⟩
        have n2 : (bt (⟨#[48]⟩ ++ s) 6 != 45) = true := by simp only [bne, q2]; rfl
        clear hf hx
        go_enter Tryd.func25, Tryd.ntmps25
        go_wp2_with fail
        go_ret2
        exact ⟨rfl, hW⟩
      · have q2 : (bt (⟨#[48]⟩ ++ s) 2 == 45) = false := by rw [beq_eq_false_iff_ne]; exact q1
        have n2 : (bt (⟨#[48]⟩ ++ s) 2 != 45) = true := by simp only [bne, q2]; rfl
        clear hf hx
        go_enter Tryd.func25, Tryd.ntmps25
        go_wp2_with fail
        go_ret2
        exact ⟨rfl, hW⟩
    · have hx : rDayX s = s := if_neg h10
      rw [hx] at hf
      have hb := get_bt s
      have e10 : ((s.size : Int) == 10) = false := by rw [beq_eq_false_iff_ne]; omega
      by_cases q0 : s.size = 11
      · by_cases q1 : bt s 2 = 45
        · have q2 : (bt s 6 == 45) = false := by rw [beq_eq_false_iff_ne]; exact fun e => hf ⟨q0, q1, e⟩
          have n2 : (bt s 6 != 45) = true := by simp only [bne, q2]; rfl
          clear hf hx
          go_enter Tryd.func25, Tryd.ntmps25
          go_wp2_with fail
          go_ret2
          exact ⟨rfl, hW⟩
        · have q2 : (bt s 2 == 45) = false := by rw [beq_eq_false_iff_ne]; exact q1
          have n2 : (bt s 2 != 45) = true := by simp only [bne, q2]; rfl
          clear hf hx
          go_enter Tryd.func25, Tryd.ntmps25
          go_wp2_with fail
          go_ret2
          exact ⟨rfl, hW⟩
      · clear hf hx
        go_enter Tryd.func25, Tryd.ntmps25
        go_wp2_with fail
        go_ret2
        exact ⟨rfl, hW⟩
end Go.Proofs.YtfhdnppcookcoaaDoor
