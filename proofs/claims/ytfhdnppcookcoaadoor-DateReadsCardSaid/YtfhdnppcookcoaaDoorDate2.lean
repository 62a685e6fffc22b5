/- The walks of package date: number, month, long, clock, zone. -/
import Derived.Test.YtfhdnppcookcoaaDoorDate1
namespace Go.Proofs.YtfhdnppcookcoaaDoor
open Go.RowKit Go.PlainAid
set_option linter.unusedVariables false
set_option linter.unusedSimpArgs false
def digCh (c : Int) : Bool := decide (48 ≤ c) && decide (c ≤ 57)
theorem digits_stop2 (s : ByteArray) (k n : Nat) (h : k < n) (hk : (decide (48 ≤ bt s k) && decide (bt s k ≤ 57)) = false) : digitsB s n = false := by
  induction n with
  | zero => omega
  | succ n ih =>
    simp only [digitsB]
    by_cases e : k = n
    · subst e; rw [hk, Bool.and_false]
    · rw [ih (by omega), Bool.false_and]
def dnumV (s : ByteArray) : Int × Bool := if digitsB s s.size = true then (numZ s s.size, !(s.size == 0)) else (0, false)
def Num2End (v : Int × Bool) (w : World) (e : Ending) (w' : World) : Prop := e = .returned (.tuple #[.int .i64 v.1, .bool v.2]) ∧ w = w'
theorem number_any2 (s : ByteArray) (w : World) (hs : s.size ≤ 10) : Calls Tryd.prog 41 #[.string s] w (Num2End (dnumV s) w) := by
  have hb := get_bt s
  have hv1 : ∀ k, k < s.size → (decide (48 ≤ bt s k) && decide (bt s k ≤ 57)) = false → dnumV s = (0, false) := fun k hk h => by
    unfold dnumV; rw [digits_stop2 s k s.size hk h]; rfl
  have hv2 : digitsB s s.size = true → Value.int .i64 (dnumV s).1 = .int .i64 (numZ s s.size) ∧ Value.bool (dnumV s).2 = .bool (!s.toList.isEmpty) := fun h => by
    unfold dnumV; rw [if_pos h]
    refine ⟨rfl, ?_⟩
    have hl : s.toList.length = s.size := by rw [ByteArray.toList_eq]; simp
    congr 2
    cases hl2 : s.toList with
    | nil => rw [hl2] at hl; rw [← hl]; rfl
    | cons a b => rw [hl2] at hl; rw [← hl]; rfl
  have HV1 := Lib.hid hv1
  have HV2 := Lib.hid hv2
  obtain ⟨v, hv⟩ : ∃ v, v = dnumV s := ⟨_, rfl⟩
  rw [← hv] at HV1 HV2 ⊢
  clear hv1 hv2 hv
  go_enter Tryd.func41, Tryd.ntmps41
  go_wp2
  go_loop [4, 8] (fun n i => ∃ k : Nat, k ≤ s.size ∧ i = .int .i64 k ∧ n = .int .i64 (numZ s k) ∧ Hid (digitsB s k = true)) (fun _ i => s.size - (intOf i).toNat)
  case atStart => exact ⟨0, by omega, rfl, rfl, rfl⟩
  case round =>
    obtain ⟨k, hk, rfl, rfl, hd⟩ := hrel
    have b0 := bt_nonneg s k
    have b1 := bt_le s k
    obtain ⟨z0, z1⟩ := numZ_small s k (by omega) hd.out
    by_cases hlt : k < s.size
    · by_cases h48 : 48 ≤ bt s k
      · by_cases h57 : bt s k ≤ 57
        · have hn : Hid (digitsB s (k + 1) = true) := by show _ = _; simp only [digitsB, hd.out, Bool.true_and]; simp; omega
          go_wp2
          go_round
          case rel => exact ⟨k + 1, by omega, by go_num, by simp only [numZ], hn⟩
          case measure => simp [intOf]; omega
        · have HZ := Lib.hid (HV1.out k hlt (by rw [show decide (bt s k ≤ 57) = false by simp; omega, Bool.and_false]))
          go_wp2
          go_ret2
          exact ⟨by rw [HZ.out]; rfl, rfl⟩
      · have HZ := Lib.hid (HV1.out k hlt (by rw [show decide (48 ≤ bt s k) = false by simp; omega, Bool.false_and]))
        go_wp2
        go_ret2
        exact ⟨by rw [HZ.out]; rfl, rfl⟩
    · obtain rfl : k = s.size := by omega
      obtain ⟨HZ1, HZ2⟩ := HV2.out hd.out
      have HZ1 := Lib.hid HZ1
      have HZ2 := Lib.hid HZ2
      go_wp2
      go_ret2
      exact ⟨by rw [HZ1.out, HZ2.out]; rfl, rfl⟩
abbrev monthsS : ByteArray := ⟨#[74, 97, 110, 70, 101, 98, 77, 97, 114, 65, 112, 114, 77, 97, 121, 74, 117, 110, 74, 117, 108, 65, 117, 103, 83, 101, 112, 79, 99, 116, 78, 111, 118, 68, 101, 99]⟩
def monS (m : Nat) : ByteArray := monthsS.extract (3 * m - 3) (3 * m)
/-- the first month from k on whose letters are these -/
def monFrom (t : List UInt8) : Nat → Nat → Int
  | 0, _ => 0
  | f + 1, k => if t == (foldS (monS k)).toList then k else monFrom t f (k + 1)
def monV (s : ByteArray) : Int := monFrom (foldS s).toList 12 1
set_option maxRecDepth 100000 in
set_option maxHeartbeats 1000000 in
theorem month_any (s : ByteArray) (w : World) (hs : s.size ≤ 1000) : Calls Tryd.prog 47 #[.string s] w fun e w' => e = .returned (.int .i64 (monV s)) ∧ Below w.heap.size w w' := by
  have hW0 := Below.refl w.heap.size w
  obtain ⟨V, hV⟩ : ∃ V, V = monV s := ⟨_, rfl⟩
  rw [← hV]
  obtain ⟨X, hX⟩ : ∃ X, X = foldS s := ⟨_, rfl⟩
  have HX := Lib.hid hX
  have hV0 : Hid (V = monFrom X.toList 12 1) := by show _ = _; rw [hV, hX]; rfl
  clear hV hX
  go_enter Tryd.func47, Tryd.ntmps47
  go_wp2
  go_loopw [3] (fun i wr => ∃ k : Nat, 1 ≤ k ∧ k ≤ 13 ∧ i = .int .i64 k ∧ Hid (V = monFrom X.toList (13 - k) k) ∧ Below w.heap.size w wr) (fun i _ => 13 - (intOf i).toNat)
  case atStart => exact ⟨1, by omega, by omega, rfl, hV0, hW0⟩
  case round =>
    obtain ⟨k, hk1, hk2, rfl, hm, hW⟩ := hrel
    by_cases hlt : k ≤ 12
    · have hms : (monS k).size ≤ 100 := by unfold monS; rw [ByteArray.size_extract]; omega
      have F1 : Hid (∀ w, Calls Tryd.prog 58 #[.string s] w fun e w' => e = .returned (.string (foldS s)) ∧ Below w.heap.size w w') := fun w => fold_any s w (by omega)
      have F2 : Hid (∀ w, Calls Tryd.prog 58 #[.string (monthsS.extract (3 * k - 3) (3 * k))] w fun e w' => e = .returned (.string (foldS (monS k))) ∧ Below w.heap.size w w') := fun w => fold_any (monS k) w (by omega)
      have g1 : IntKind.i64.wrap (3 * (k : Int)) = 3 * (k : Int) := IntWalk.i64_in _ (by omega)
      have g2 : IntKind.i64.wrap (3 * (k : Int) - 3) = 3 * (k : Int) - 3 := IntWalk.i64_in _ (by omega)
      have g3 : (3 * (k : Int) - 3).toNat = 3 * k - 3 := by omega
      have g4 : (3 * (k : Int)).toNat = 3 * k := by omega
      have g5 : 0 ≤ 3 * (k : Int) - 3 := by omega
      have g6 : 3 * (k : Int) ≤ 36 := by omega
      have g7 : 3 * (k : Int) - 3 ≤ 3 * (k : Int) := by omega
      obtain ⟨wo, rfl⟩ : ∃ wo : World, wo = wr := ⟨_, rfl⟩
      have hsl : (Instr.slice 9 (.string monthsS) (some (.int .i64 (3 * (k : Int) - 3))) (some (.int .i64 (3 * (k : Int)))) none).run Tryd.prog wo = .ok (.string (monthsS.extract (3 * k - 3) (3 * k))) wo := slice_str 9 Tryd.underlying9 monthsS _ _ (3 * k - 3) (3 * k) (by omega) (by omega) (by omega) (by show 3 * k ≤ 36; omega) wo
      obtain ⟨Y, hY⟩ : ∃ Y, Y = foldS (monS k) := ⟨_, rfl⟩
      rw [← HX.out] at F1
      rw [← hY] at F2
      have hstep : V = if X.toList == Y.toList then (k : Int) else monFrom X.toList (13 - (k + 1)) (k + 1) := by
        rw [hm.out, show 13 - k = (13 - (k + 1)) + 1 by omega, hY]; rfl
      clear hm
      cases hc : (X.toList == Y.toList) with
      | true =>
        rw [hc] at hstep
        have HZ : Hid (V = k) := hstep
        clear hY hstep
        go_wp2_with fail
        go_region_with (first | (go_at_call 58; with_reducible refine (F1.out _).mono ?_; rintro e w1 ⟨rfl, hw1⟩; (first | replace hW := nextB hW hw1 | replace hW := nextA hW hw1 | replace hW := nextB hW.drew hw1 | replace hW := nextAA hW hw1 | replace hW := nextAD hW hw1); clear hw1) | (go_at_call 58; with_reducible refine (F2.out _).mono ?_; rintro e w1 ⟨rfl, hw1⟩; (first | replace hW := nextB hW hw1 | replace hW := nextA hW hw1 | replace hW := nextB hW.drew hw1 | replace hW := nextAA hW hw1 | replace hW := nextAD hW hw1); clear hw1))
        all_goals
          go_wp2
          go_ret
          exact ⟨by rw [HZ.out]; rfl, hW⟩
      | false =>
        rw [hc] at hstep
        have HZ : Hid (V = monFrom X.toList (13 - (k + 1)) (k + 1)) := hstep
        clear hY hstep
        go_wp2_with fail
        go_region_with (first | (go_at_call 58; with_reducible refine (F1.out _).mono ?_; rintro e w1 ⟨rfl, hw1⟩; (first | replace hW := nextB hW hw1 | replace hW := nextA hW hw1 | replace hW := nextB hW.drew hw1 | replace hW := nextAA hW hw1 | replace hW := nextAD hW hw1); clear hw1) | (go_at_call 58; with_reducible refine (F2.out _).mono ?_; rintro e w1 ⟨rfl, hw1⟩; (first | replace hW := nextB hW hw1 | replace hW := nextA hW hw1 | replace hW := nextB hW.drew hw1 | replace hW := nextAA hW hw1 | replace hW := nextAD hW hw1); clear hw1))
        all_goals
          go_wp2
          go_roundw
          case rel => exact ⟨k + 1, by omega, by omega, by go_num, HZ.out, hW⟩
          case measure => simp [intOf]; omega
    · obtain rfl : k = 13 := by omega
      have HZ : Hid (V = 0) := hm.out
      go_wp2
      go_ret
      exact ⟨by rw [HZ.out]; rfl, hW⟩
end Go.Proofs.YtfhdnppcookcoaaDoor
