/- The walks of TextDigits and TextFolds. -/
import Derived.Test.YtejodjgeamaejaaDoorText5
namespace Go.Proofs.YtejodjgeamaejaaDoor
open Go.RowKit Go.PlainAid
set_option linter.unusedVariables false
set_option linter.unusedSimpArgs false
def DigOf (n : Int) (t : ByteArray) : Prop := ∀ w, TabOK w → Calls Tryd.prog 12 #[.int .i64 n] w fun e w' => e = .returned (.string t) ∧ Below w.heap.size w w'
theorem dig_of (n : Int) (t : ByteArray) (h0 : -9223372036854775808 ≤ n) (h1 : n ≤ 9223372036854775807) (h : digS n = t) : DigOf n t := fun w hT => by rw [← h]; exact digits_any n w h0 h1 hT
attribute [local go_sem] conv1s conv1_drew
theorem digits_walk (n : Int) (w0 : (Lit.int .u64 n).wf = true) (w : World) (hT : TabOK w) : Calls Tryd.prog 7 #[.int .u64 n] w fun e w' => e = .returned (.bool true) ∧ Below w.heap.size w w' := by
  obtain ⟨a0, a1⟩ : 0 ≤ n ∧ n < 18446744073709551616 := by
    simp [Lit.wf, IntKind.min, IntKind.max, IntKind.signed, IntKind.bits] at w0; omega
  clear w0
  have k0 : 0 ≤ n / 2 := by omega
  have k1 : n / 2 ≤ 9223372036854775807 := by omega
  have hW := Below.refl w.heap.size w
  have g1 : IntKind.u8.wrap (48 + n / 2 % 10) = 48 + n / 2 % 10 := by rw [IntKind.wrap_u8]; omega
  have hs1 : (strOfNums [48 + n / 2 % 10]).size ≤ 1 := by rw [strOfNums_size]; simp
  by_cases h10 : n / 2 < 10
  · have M1 : Hid (DigOf (n / 2) (strOfNums [48 + n / 2 % 10])) := dig_of _ _ (by omega) (by omega) (by rw [show n / 2 % 10 = n / 2 by omega]; exact digS_one (n / 2) k0 h10)
    have M2 : Hid (DigOf (-1 - n / 2) ⟨#[48]⟩) := dig_of _ _ (by omega) (by omega) (by rw [digS_neg _ (by omega)]; decide +kernel)
    go_enter Tryd.func7, Tryd.ntmps7
    go_wp2_with fail
    refine (M1.out _ (hT.below (hW.alloc hW.size _))).mono ?_; rintro e w1 ⟨rfl, hw1⟩; (first | replace hW := nextB hW hw1 | replace hW := nextA hW hw1 | replace hW := nextB hW.drew hw1 | replace hW := nextAA hW hw1 | replace hW := nextAD hW hw1); clear hw1
    go_wp2_with fail
    refine (M2.out _ (hT.below hW)).mono ?_; rintro e w1 ⟨rfl, hw1⟩; (first | replace hW := nextB hW hw1 | replace hW := nextA hW hw1 | replace hW := nextB hW.drew hw1 | replace hW := nextAA hW hw1 | replace hW := nextAD hW hw1); clear hw1
    go_wp2_with (go_at_call 13; refine (awake1_any _ (hT.below hW)).mono ?_; rintro e w1 ⟨rfl, hw1⟩; (first | replace hW := nextB hW hw1 | replace hW := nextA hW hw1 | replace hW := nextB hW.drew hw1 | replace hW := nextAA hW hw1 | replace hW := nextAD hW hw1); clear hw1)
    go_ret
    exact ⟨rfl, hW⟩
  · have M1 : Hid (DigOf (n / 2) (digS (n / 2 / 10) ++ strOfNums [48 + n / 2 % 10])) := dig_of _ _ (by omega) (by omega) (digS_more (n / 2) (by omega))
    have M2 : Hid (DigOf (n / 2 / 10) (digS (n / 2 / 10))) := dig_of _ _ (by omega) (by omega) rfl
    have M3 : Hid (DigOf (-(n / 2)) ⟨#[48]⟩) := dig_of _ _ (by omega) (by omega) (by rw [digS_neg _ (by omega)]; decide +kernel)
    have hsz := itoa_len (n / 2 / 10) (by omega) (by omega)
    go_enter Tryd.func7, Tryd.ntmps7
    go_wp2_with fail
    refine (M1.out _ (hT.below (hW.alloc hW.size _))).mono ?_; rintro e w1 ⟨rfl, hw1⟩; (first | replace hW := nextB hW hw1 | replace hW := nextA hW hw1 | replace hW := nextB hW.drew hw1 | replace hW := nextAA hW hw1 | replace hW := nextAD hW hw1); clear hw1
    go_wp2_with fail
    refine (M2.out _ (hT.below hW)).mono ?_; rintro e w1 ⟨rfl, hw1⟩; (first | replace hW := nextB hW hw1 | replace hW := nextA hW hw1 | replace hW := nextB hW.drew hw1 | replace hW := nextAA hW hw1 | replace hW := nextAD hW hw1); clear hw1
    go_wp2_with fail
    refine (M3.out _ (hT.below hW)).mono ?_; rintro e w1 ⟨rfl, hw1⟩; (first | replace hW := nextB hW hw1 | replace hW := nextA hW hw1 | replace hW := nextB hW.drew hw1 | replace hW := nextAA hW hw1 | replace hW := nextAD hW hw1); clear hw1
    go_wp2_with (go_at_call 13; refine (awake1_any _ (hT.below hW)).mono ?_; rintro e w1 ⟨rfl, hw1⟩; (first | replace hW := nextB hW hw1 | replace hW := nextA hW hw1 | replace hW := nextB hW.drew hw1 | replace hW := nextAA hW hw1 | replace hW := nextAD hW hw1); clear hw1)
    go_ret
    exact ⟨rfl, hW⟩
theorem foldZ_map (s : ByteArray) : foldZ s s.size = s.toList.map fun c => foldN (c.toNat : Int) := by
  unfold foldZ
  apply List.ext_getElem
  · simp [tl_len]
  · intro i h1 h2
    simp only [List.getElem_map, List.getElem_range]
    rw [bt_at s i (by rw [tl_len]; simpa using h1)]
theorem fold_toList (s : ByteArray) : (foldS s).toList = s.toList.map fun c => UInt8.ofNat (foldN (c.toNat : Int)).toNat := by
  unfold foldS; rw [nums_toList, foldZ_map, List.map_map]; rfl
theorem fold_app (a b : ByteArray) : foldS (a ++ b) = foldS a ++ foldS b := by
  apply ba_ext'
  rw [fold_toList, app_toList, app_toList, fold_toList, fold_toList, List.map_append]
theorem foldC_fin : ∀ c : Fin 256, UInt8.ofNat (foldN ((UInt8.ofNat (foldN (c.val : Int)).toNat).toNat : Int)).toNat = UInt8.ofNat (foldN (c.val : Int)).toNat := by decide +kernel
theorem fold_fold (s : ByteArray) : foldS (foldS s) = foldS s := by
  apply ba_ext'
  rw [fold_toList, fold_toList, List.map_map]
  apply List.map_congr_left
  intro c _
  exact foldC_fin ⟨c.toNat, c.toNat_lt⟩
theorem foldN_small (c : Int) (h0 : 0 ≤ c) (h1 : c < 256) : 0 ≤ foldN c ∧ foldN c < 256 ∧ (foldN c < 65 ∨ 90 < foldN c) := by
  unfold foldN; split <;> omega
theorem fold_bt (s : ByteArray) (k : Nat) (h : k < s.size) : bt (foldS s) k = foldN (bt s k) := by
  have b0 := bt_nonneg s k
  have b1 := bt_le s k
  obtain ⟨c0, c1, _⟩ := foldN_small (bt s k) b0 (by omega)
  unfold foldS
  exact bt_strOf _ k _ (by unfold foldZ; simp [h]) c0 c1
theorem fold_small (s : ByteArray) (k : Nat) (h : k < s.size) : bt (foldS s) k < 65 ∨ 90 < bt (foldS s) k := by
  rw [fold_bt s k h]
  have b0 := bt_nonneg s k
  have b1 := bt_le s k
  exact (foldN_small (bt s k) b0 (by omega)).2.2
theorem folds_walk (a b : ByteArray) (w0 : a.size ≤ maxLen) (w1 : b.size ≤ maxLen) (w : World) (hT : TabOK w) : Calls Tryd.prog 5 #[.string a, .string b] w fun e w' => e = .returned (.bool true) ∧ Below w.heap.size w w' := by
  unfold maxLen at w0 w1
  have hW := Below.refl w.heap.size w
  by_cases ha : a.size ≤ 3000
  · by_cases hB : b.size ≤ 3000
    · have s1 : (foldS a).size = a.size := foldS_size a
      have s2 : (a ++ b).size ≤ 6000 := by rw [ByteArray.size_append]; omega
      have s3 : (foldS a).size ≤ 3000 := by omega
      have s4 : (foldS b).size ≤ 3000 := by rw [foldS_size]; omega
      have M1 : Hid (StrOf 15 a (foldS a)) := fold_of _ _ (by omega) rfl
      have M2 : Hid (StrOf 15 (foldS a) (foldS a)) := fold_of _ _ (by omega) (fold_fold a)
      have M3 : Hid (StrOf 15 (a ++ b) (foldS a ++ foldS b)) := fold_of _ _ (by omega) (fold_app a b)
      have M4 : Hid (StrOf 15 b (foldS b)) := fold_of _ _ (by omega) rfl
      have HS : Hid (∀ k, k < a.size → bt (foldS a) k < 65 ∨ 90 < bt (foldS a) k) := fold_small a
      have hb := get_bt (foldS a)
      go_enter Tryd.func5, Tryd.ntmps5
      go_wp2_with (go_at_call 15; refine (M1.out _ (hT.below hW)).mono ?_; rintro e w1 ⟨rfl, hw1⟩; (first | replace hW := nextB hW hw1 | replace hW := nextA hW hw1 | replace hW := nextB hW.drew hw1 | replace hW := nextAA hW hw1 | replace hW := nextAD hW hw1); clear hw1)
      go_loop [6] (fun i => ∃ k : Nat, k ≤ a.size ∧ i = .int .i64 k) (fun i => a.size - (intOf i).toNat)
      case atStart => exact ⟨0, by omega, rfl⟩
      case round =>
        obtain ⟨k, hk, rfl⟩ := hrel
        by_cases hlt : k < a.size
        · have b0 := bt_nonneg (foldS a) k
          have b1 := bt_le (foldS a) k
          have hs := HS.out k hlt
          by_cases h65 : bt (foldS a) k < 65
          · go_wp2
            go_round
            case rel => exact ⟨k + 1, by omega, by go_num⟩
            case measure => simp [intOf]; omega
          · have h90 : 90 < bt (foldS a) k := by omega
            go_wp2
            go_round
            case rel => exact ⟨k + 1, by omega, by go_num⟩
            case measure => simp [intOf]; omega
        · go_wp2_with fail
          refine (M2.out _ (hT.below hW)).mono ?_; rintro e w1 ⟨rfl, hw1⟩; (first | replace hW := nextB hW hw1 | replace hW := nextA hW hw1 | replace hW := nextB hW.drew hw1 | replace hW := nextAA hW hw1 | replace hW := nextAD hW hw1); clear hw1
          go_wp2_with fail
          refine (M3.out _ (hT.below hW)).mono ?_; rintro e w1 ⟨rfl, hw1⟩; (first | replace hW := nextB hW hw1 | replace hW := nextA hW hw1 | replace hW := nextB hW.drew hw1 | replace hW := nextAA hW hw1 | replace hW := nextAD hW hw1); clear hw1
          go_wp2_with fail
          refine (M4.out _ (hT.below hW)).mono ?_; rintro e w1 ⟨rfl, hw1⟩; (first | replace hW := nextB hW hw1 | replace hW := nextA hW hw1 | replace hW := nextB hW.drew hw1 | replace hW := nextAA hW hw1 | replace hW := nextAD hW hw1); clear hw1
          go_wp2_with (go_at_call 13; refine (awake1_any _ (hT.below hW)).mono ?_; rintro e w1 ⟨rfl, hw1⟩; (first | replace hW := nextB hW hw1 | replace hW := nextA hW hw1 | replace hW := nextB hW.drew hw1 | replace hW := nextAA hW hw1 | replace hW := nextAD hW hw1); clear hw1)
          go_ret
          exact ⟨rfl, hW⟩
    · go_enter Tryd.func5, Tryd.ntmps5
      go_wp2_with (go_at_call 13; refine (awake1_any _ (hT.below hW)).mono ?_; rintro e w1 ⟨rfl, hw1⟩; (first | replace hW := nextB hW hw1 | replace hW := nextA hW hw1 | replace hW := nextB hW.drew hw1 | replace hW := nextAA hW hw1 | replace hW := nextAD hW hw1); clear hw1)
      go_ret
      exact ⟨rfl, hW⟩
  · go_enter Tryd.func5, Tryd.ntmps5
    go_wp2_with (go_at_call 13; refine (awake1_any _ (hT.below hW)).mono ?_; rintro e w1 ⟨rfl, hw1⟩; (first | replace hW := nextB hW hw1 | replace hW := nextA hW hw1 | replace hW := nextB hW.drew hw1 | replace hW := nextAA hW hw1 | replace hW := nextAD hW hw1); clear hw1)
    go_ret
    exact ⟨rfl, hW⟩
end Go.Proofs.YtejodjgeamaejaaDoor
