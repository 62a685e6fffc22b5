/- The walk of ReadImap. -/
import Derived.Test.YtfhdnppcookcoaaDoorDate7
import Derived.Deep.DeepCutAuto
namespace Go.Proofs.YtfhdnppcookcoaaDoor
open Go.RowKit Go.PlainAid
set_option linter.unusedVariables false
set_option linter.unusedSimpArgs false
def Read2End (v : Int × Int) (w : World) (e : Ending) (w' : World) : Prop := e = .returned (.tuple #[.int .i64 v.1, .int .i64 v.2]) ∧ Below w.heap.size w w'
theorem bt_ext (s : ByteArray) (i j k : Nat) (h : i + k < j) (hj : j ≤ s.size) : bt (s.extract i j) k = bt s (i + k) := by
  have hl : s.toList.length = s.size := by rw [ByteArray.toList_eq]; simp
  have hk : i + k < s.toList.length := by omega
  rw [bt_eq s (i + k) _ (List.getElem?_eq_getElem hk)]
  refine bt_eq _ _ _ ?_
  have e := extract_toList s i (j - i)
  rw [show i + (j - i) = j by omega] at e
  rw [e, List.getElem?_take, if_pos (by omega), List.getElem?_drop, List.getElem?_eq_getElem hk]
set_option maxHeartbeats 4000000 in
set_option maxRecDepth 100000 in
theorem readImap_any (s : ByteArray) (w : World) (hs : s.size ≤ 1000) : Calls Tryd.prog 14 #[.string s] w (Read2End (readImapV s) w) := by
  have hW := Below.refl w.heap.size w
  have hb := get_bt s
  by_cases hc : s.size = 26 ∧ bt s 2 = 45 ∧ bt s 6 = 45 ∧ bt s 11 = 32 ∧ bt s 20 = 32
  · obtain ⟨h26, c2, c6, c11, c20⟩ := hc
    have hv : readImapV s = _ := if_pos ⟨h26, c2, c6, c11, c20⟩
    rw [hv]
    clear hv
    have e2 : (s.extract 0 2).size = 2 := by rw [ByteArray.size_extract]; omega
    have e3 : (dayW s).size ≤ 10 := by
      unfold dayW; split
      · rw [ByteArray.size_append]
        have := ext_le (s.extract 0 2) 1 2 (by omega)
        have z : (⟨#[48]⟩ : ByteArray).size = 1 := rfl
        omega
      · omega
    have f4 := ext_le s 7 11 (by omega)
    have f5 := ext_le s 3 6 (by omega)
    have f6 := ext_le s 12 20 (by omega)
    have f7 := ext_le s 21 26 (by omega)
    have e4 : bt (s.extract 0 2) 0 = bt s 0 := bt_ext s 0 2 0 (by omega) (by omega)
    have hb2 := get_bt (s.extract 0 2)
    have z1 := dateV_le (dayW s) (s.extract 3 6) (s.extract 7 11) e3 (by omega)
    have z2 := clockV_le (s.extract 12 20)
    have z3 := zoneV_le (s.extract 21 26)
    have N1 : Hid (∀ w, Calls Tryd.prog 31 #[.string (dayW s), .string (s.extract 3 6), .string (s.extract 7 11)] w (Num2Below (dateV (dayW s) (s.extract 3 6) (s.extract 7 11)) w)) := fun w => date_any _ _ _ w e3 (by omega) (by omega)
    have N2 : Hid (∀ w, Calls Tryd.prog 32 #[.string (s.extract 12 20)] w (Num2End (clockV (s.extract 12 20)) w)) := fun w => clock_any _ w (by omega)
    have N3 : Hid (∀ w, Calls Tryd.prog 33 #[.string (s.extract 21 26)] w (Num2End (zoneV (s.extract 21 26)) w)) := fun w => zone_any _ w (by omega)
    generalize dateV (dayW s) (s.extract 3 6) (s.extract 7 11) = q1 at N1 z1 ⊢
    generalize clockV (s.extract 12 20) = q2 at N2 z2 ⊢
    generalize zoneV (s.extract 21 26) = q3 at N3 z3 ⊢
    obtain ⟨d, a⟩ := q1
    obtain ⟨c, b⟩ := q2
    obtain ⟨z, f⟩ := q3
    dsimp only at N1 N2 N3 z1 z2 z3 ⊢
    obtain ⟨z1, z1'⟩ := z1
    obtain ⟨z2, z2'⟩ := z2
    obtain ⟨z3, z3'⟩ := z3
    generalize hv : (if a = true ∧ b = true ∧ f = true ∧ 0 ≤ d * 86400 + c - z ∧ d * 86400 + c - z ≤ 253402300799 then (d * 86400 + c - z, (0 : Int)) else (0, 3)) = v
    obtain ⟨n, hn⟩ : ∃ n, n = d * 86400 + c - z := ⟨_, rfl⟩
    rw [← hn] at hv
    have hcs := read_cases a b f n v hv.symm
    clear hv
    have HN := Lib.hid hn
    clear hn
    have z8 : (⟨#[48]⟩ : ByteArray).size ≤ 1 := by decide
    have z9 : ((s.extract 0 2).extract 1 2).size ≤ 1 := ext_le _ 1 2 (by omega)
    by_cases h32 : bt s 0 = 32
    · have hd : dayW s = ⟨#[48]⟩ ++ (s.extract 0 2).extract 1 2 := if_pos h32
      rw [hd] at N1
      clear hd e3
      rcases hcs with ⟨rfl, rfl⟩ | ⟨rfl, rfl, rfl⟩ | ⟨rfl, rfl, rfl, rfl⟩ | ⟨rfl, rfl, rfl, n1, rfl⟩ | ⟨rfl, rfl, rfl, n1, n2, rfl⟩ | ⟨rfl, rfl, rfl, n1, n2, rfl⟩
      all_goals
        go_enter Tryd.func14, Tryd.ntmps14
        go_wp2_with fail
        go_region_with (go_at_call 31; refine (N1.out _).mono ?_; rintro e w1 ⟨rfl, hw1⟩; (first | replace hW := nextB hW hw1 | replace hW := nextA hW hw1 | replace hW := nextB hW.drew hw1 | replace hW := nextAA hW hw1 | replace hW := nextAD hW hw1); clear hw1)
        all_goals
          go_wp2_with fail
          refine (N2.out _).mono ?_; rintro e w1 ⟨rfl, hw⟩; obtain rfl : _ = w1 := hw
          go_wp2_with fail
          refine (N3.out _).mono ?_; rintro e w1 ⟨rfl, hw⟩; obtain rfl : _ = w1 := hw
          go_upto_region 9 with fail
          go_cut [11] (fun t wx => t = .int .i64 n ∧ Below w.heap.size w wx)
          case first =>
            go_wp2_with fail
            go_meet
            exact ⟨by rw [HN.out], hW⟩
          case rest =>
            obtain ⟨rfl, hW2⟩ := hcut
            try (have c8 : decide (n < 0) = true := by simp; omega)
            try (have c8 : decide (n < 0) = false := by simp; omega)
            try (have c9 : decide (253402300799 < n) = true := by simp; omega)
            try (have c9 : decide (253402300799 < n) = false := by simp; omega)
            try clear n1
            try clear n2
            clear z1 z1' z2 z2' z3 z3' hb hb2
            go_wp2_with fail
            go_ret2
            exact ⟨rfl, hW2⟩
    · have h33 : (bt s 0 == 32) = false := by rw [beq_eq_false_iff_ne]; exact h32
      have hd : dayW s = s.extract 0 2 := if_neg h32
      rw [hd] at N1
      clear hd e3
      rcases hcs with ⟨rfl, rfl⟩ | ⟨rfl, rfl, rfl⟩ | ⟨rfl, rfl, rfl, rfl⟩ | ⟨rfl, rfl, rfl, n1, rfl⟩ | ⟨rfl, rfl, rfl, n1, n2, rfl⟩ | ⟨rfl, rfl, rfl, n1, n2, rfl⟩
      all_goals
        go_enter Tryd.func14, Tryd.ntmps14
        go_wp2_with fail
        go_region_with (go_at_call 31; refine (N1.out _).mono ?_; rintro e w1 ⟨rfl, hw1⟩; (first | replace hW := nextB hW hw1 | replace hW := nextA hW hw1 | replace hW := nextB hW.drew hw1 | replace hW := nextAA hW hw1 | replace hW := nextAD hW hw1); clear hw1)
        all_goals
          go_wp2_with fail
          refine (N2.out _).mono ?_; rintro e w1 ⟨rfl, hw⟩; obtain rfl : _ = w1 := hw
          go_wp2_with fail
          refine (N3.out _).mono ?_; rintro e w1 ⟨rfl, hw⟩; obtain rfl : _ = w1 := hw
          go_upto_region 9 with fail
          go_cut [11] (fun t wx => t = .int .i64 n ∧ Below w.heap.size w wx)
          case first =>
            go_wp2_with fail
            go_meet
            exact ⟨by rw [HN.out], hW⟩
          case rest =>
            obtain ⟨rfl, hW2⟩ := hcut
            try (have c8 : decide (n < 0) = true := by simp; omega)
            try (have c8 : decide (n < 0) = false := by simp; omega)
            try (have c9 : decide (253402300799 < n) = true := by simp; omega)
            try (have c9 : decide (253402300799 < n) = false := by simp; omega)
            try clear n1
            try clear n2
            clear z1 z1' z2 z2' z3 z3' hb hb2
            go_wp2_with fail
            go_ret2
            exact ⟨rfl, hW2⟩
  · have hv : readImapV s = (0, 3) := if_neg hc
    rw [hv]
    clear hv
    have hcs : ¬ s.size = 26 ∨ (s.size = 26 ∧ ¬ bt s 2 = 45) ∨ (s.size = 26 ∧ bt s 2 = 45 ∧ ¬ bt s 6 = 45) ∨ (s.size = 26 ∧ bt s 2 = 45 ∧ bt s 6 = 45 ∧ ¬ bt s 11 = 32) ∨ (s.size = 26 ∧ bt s 2 = 45 ∧ bt s 6 = 45 ∧ bt s 11 = 32 ∧ ¬ bt s 20 = 32) := by
      by_cases q1 : s.size = 26 <;> by_cases q2 : bt s 2 = 45 <;> by_cases q3 : bt s 6 = 45 <;> by_cases q4 : bt s 11 = 32 <;> by_cases q5 : bt s 20 = 32 <;> simp_all
    clear hc
    rcases hcs with q1 | ⟨q1, q2⟩ | ⟨q1, q2, q3⟩ | ⟨q1, q2, q3, q4⟩ | ⟨q1, q2, q3, q4, q5⟩
    all_goals
      go_enter Tryd.func14, Tryd.ntmps14
      go_wp2
      go_ret2
      exact ⟨rfl, hW⟩
end Go.Proofs.YtfhdnppcookcoaaDoor
