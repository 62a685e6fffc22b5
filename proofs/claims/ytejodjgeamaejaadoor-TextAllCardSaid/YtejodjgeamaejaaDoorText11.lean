/- The walks of TextWithin and TextAll. -/
import Derived.Test.YtejodjgeamaejaaDoorText10
namespace Go.Proofs.YtejodjgeamaejaaDoor
open Go.RowKit Go.PlainAid
set_option linter.unusedVariables false
set_option linter.unusedSimpArgs false
theorem contains_true (s sub : List UInt8) (i : Nat) (hi : i ≤ s.length) (h : Lib.occAt s sub i = true) : Lib.contains s sub = true := by
  unfold Lib.contains
  rw [decide_eq_true_iff]
  rcases Lib.index_spec s sub with ⟨_, h2⟩ | ⟨j, h2, _⟩
  · rw [h2 i hi] at h; cases h
  · omega
theorem contains_long (s sub : List UInt8) (h : s.length < sub.length) : Lib.contains s sub = false := by
  unfold Lib.contains
  rw [decide_eq_false_iff_not]
  intro h0
  have := Lib.index_room s sub h0
  omega
theorem in_part (a b c : ByteArray) : inB (a ++ b ++ c) b = true := by
  unfold inB
  rw [fold_app, fold_app]
  refine contains_true _ _ (foldS a).toList.length (by rw [app_toList, app_toList]; simp) ?_
  unfold Lib.occAt
  rw [app_toList, app_toList, List.append_assoc, List.drop_left, List.isPrefixOf_iff_prefix]
  exact List.prefix_append _ _
theorem in_fold (s b : ByteArray) : inB (foldS s) b = inB s b := by unfold inB; rw [fold_fold]
theorem in_fold' (s b : ByteArray) : inB s (foldS b) = inB s b := by unfold inB; rw [fold_fold]
theorem in_long (s t : ByteArray) (h : s.size < t.size) : inB s t = false := by
  unfold inB
  exact contains_long _ _ (by rw [tl_len, tl_len, foldS_size, foldS_size]; exact h)
theorem in_empty (s : ByteArray) : inB s ⟨#[]⟩ = true := by
  unfold inB
  refine contains_true _ _ 0 (by omega) ?_
  unfold Lib.occAt
  rw [show (foldS ⟨#[]⟩).toList = [] by rw [fold_toList, ByteArray.toList_eq]; rfl]
  cases (foldS s).toList <;> rfl
def InOf (f : Nat) (s t : ByteArray) (b : Bool) : Prop := ∀ w, MaxOK w → Calls Tryd.prog f #[.string s, .string t] w fun e w' => e = .returned (.bool b) ∧ Below w.heap.size w w'
theorem in_of (s t : ByteArray) (b : Bool) (hs : s.size ≤ 10000) (hu : t.size ≤ 10000) (h : inB s t = b) : InOf 17 s t b := fun w hM => by rw [← h]; exact in_any s t w hs hu hM
theorem rin_of (s t : ByteArray) (b : Bool) (hs : s.size ≤ 10000) (hu : t.size ≤ 10000) (h : inB s t = b) : InOf 23 s t b := fun w hM => by rw [← h]; exact rin_any s t w hs hu
def BaseOK (w : World) : Prop := TabOK w ∧ MaxOK w
theorem BaseOK.tab {w w1 : World} (h : BaseOK w) (hb : Below w.heap.size w w1) : TabOK w1 := h.1.below hb
theorem BaseOK.max {w w1 : World} (h : BaseOK w) (hb : Below w.heap.size w w1) : MaxOK w1 := h.2.below hb
theorem within_walk (a b c : ByteArray) (w0 : a.size ≤ maxLen) (w1 : b.size ≤ maxLen) (w2 : c.size ≤ maxLen) (w : World) (hT : BaseOK w) : Calls Tryd.prog 9 #[.string a, .string b, .string c] w fun e w' => e = .returned (.bool true) ∧ Below w.heap.size w w' := by
  unfold maxLen at w0 w1 w2
  have hW := Below.refl w.heap.size w
  by_cases hall : a.size ≤ 300 ∧ b.size ≤ 300 ∧ c.size ≤ 300
  · obtain ⟨ha, hb, hc⟩ := hall
    have s1 : (a ++ b).size ≤ 600 := by rw [ByteArray.size_append]; omega
    have s2 : (a ++ b ++ c).size ≤ 900 := by rw [ByteArray.size_append]; omega
    have s3 : (⟨#[120]⟩ : ByteArray).size = 1 := rfl
    have s4 : (a ++ b ++ c ++ ⟨#[120]⟩ : ByteArray).size = (a ++ b ++ c).size + 1 := by rw [ByteArray.size_append, s3]
    have s5 := foldS_size (a ++ b ++ c)
    have s6 := foldS_size b
    have M1 : Hid (InOf 17 (a ++ b ++ c) b true) := in_of _ _ _ (by omega) (by omega) (in_part a b c)
    have M2 : Hid (InOf 17 (foldS (a ++ b ++ c)) b true) := in_of _ _ _ (by omega) (by omega) (by rw [in_fold]; exact in_part a b c)
    have M3 : Hid (InOf 17 (a ++ b ++ c) (foldS b) true) := in_of _ _ _ (by omega) (by omega) (by rw [in_fold']; exact in_part a b c)
    have M4 : Hid (InOf 17 (a ++ b ++ c) (a ++ b ++ c ++ ⟨#[120]⟩) false) := in_of _ _ _ (by omega) (by omega) (in_long _ _ (by omega))
    have M5 : Hid (InOf 17 (a ++ b ++ c) ⟨#[]⟩ true) := in_of _ _ _ (by omega) (by decide) (in_empty _)
    have F1 : Hid (StrOf 15 (a ++ b ++ c) (foldS (a ++ b ++ c))) := fold_of _ _ (by omega) rfl
    have F2 : Hid (StrOf 15 b (foldS b)) := fold_of _ _ (by omega) rfl
    go_enter Tryd.func9, Tryd.ntmps9
    go_wp2_with fail
    refine (M1.out _ (hT.max hW)).mono ?_; rintro e w1 ⟨rfl, hw1⟩; (first | replace hW := nextB hW hw1 | replace hW := nextA hW hw1 | replace hW := nextB hW.drew hw1 | replace hW := nextAA hW hw1 | replace hW := nextAD hW hw1); clear hw1
    go_wp2_with fail
    refine (F1.out _ (hT.tab hW)).mono ?_; rintro e w1 ⟨rfl, hw1⟩; (first | replace hW := nextB hW hw1 | replace hW := nextA hW hw1 | replace hW := nextB hW.drew hw1 | replace hW := nextAA hW hw1 | replace hW := nextAD hW hw1); clear hw1
    go_wp2_with fail
    refine (M2.out _ (hT.max hW)).mono ?_; rintro e w1 ⟨rfl, hw1⟩; (first | replace hW := nextB hW hw1 | replace hW := nextA hW hw1 | replace hW := nextB hW.drew hw1 | replace hW := nextAA hW hw1 | replace hW := nextAD hW hw1); clear hw1
    go_wp2_with fail
    refine (F2.out _ (hT.tab hW)).mono ?_; rintro e w1 ⟨rfl, hw1⟩; (first | replace hW := nextB hW hw1 | replace hW := nextA hW hw1 | replace hW := nextB hW.drew hw1 | replace hW := nextAA hW hw1 | replace hW := nextAD hW hw1); clear hw1
    go_wp2_with fail
    refine (M3.out _ (hT.max hW)).mono ?_; rintro e w1 ⟨rfl, hw1⟩; (first | replace hW := nextB hW hw1 | replace hW := nextA hW hw1 | replace hW := nextB hW.drew hw1 | replace hW := nextAA hW hw1 | replace hW := nextAD hW hw1); clear hw1
    go_wp2_with fail
    refine (M4.out _ (hT.max hW)).mono ?_; rintro e w1 ⟨rfl, hw1⟩; (first | replace hW := nextB hW hw1 | replace hW := nextA hW hw1 | replace hW := nextB hW.drew hw1 | replace hW := nextAA hW hw1 | replace hW := nextAD hW hw1); clear hw1
    go_wp2_with fail
    refine (M5.out _ (hT.max hW)).mono ?_; rintro e w1 ⟨rfl, hw1⟩; (first | replace hW := nextB hW hw1 | replace hW := nextA hW hw1 | replace hW := nextB hW.drew hw1 | replace hW := nextAA hW hw1 | replace hW := nextAD hW hw1); clear hw1
    go_wp2_with (go_at_call 13; refine (awake1_any _ (hT.tab hW)).mono ?_; rintro e w1 ⟨rfl, hw1⟩; (first | replace hW := nextB hW hw1 | replace hW := nextA hW hw1 | replace hW := nextB hW.drew hw1 | replace hW := nextAA hW hw1 | replace hW := nextAD hW hw1); clear hw1)
    go_ret
    exact ⟨rfl, hW⟩
  · by_cases ha : a.size ≤ 300
    · by_cases hb : b.size ≤ 300
      · have hc : ¬ c.size ≤ 300 := fun h => hall ⟨ha, hb, h⟩
        clear hall
        go_enter Tryd.func9, Tryd.ntmps9
        go_wp2_with (go_at_call 13; refine (awake1_any _ (hT.tab hW)).mono ?_; rintro e w1 ⟨rfl, hw1⟩; (first | replace hW := nextB hW hw1 | replace hW := nextA hW hw1 | replace hW := nextB hW.drew hw1 | replace hW := nextAA hW hw1 | replace hW := nextAD hW hw1); clear hw1)
        go_ret
        exact ⟨rfl, hW⟩
      · clear hall
        go_enter Tryd.func9, Tryd.ntmps9
        go_wp2_with (go_at_call 13; refine (awake1_any _ (hT.tab hW)).mono ?_; rintro e w1 ⟨rfl, hw1⟩; (first | replace hW := nextB hW hw1 | replace hW := nextA hW hw1 | replace hW := nextB hW.drew hw1 | replace hW := nextAA hW hw1 | replace hW := nextAD hW hw1); clear hw1)
        go_ret
        exact ⟨rfl, hW⟩
    · clear hall
      go_enter Tryd.func9, Tryd.ntmps9
      go_wp2_with (go_at_call 13; refine (awake1_any _ (hT.tab hW)).mono ?_; rintro e w1 ⟨rfl, hw1⟩; (first | replace hW := nextB hW hw1 | replace hW := nextA hW hw1 | replace hW := nextB hW.drew hw1 | replace hW := nextAA hW hw1 | replace hW := nextAD hW hw1); clear hw1)
      go_ret
      exact ⟨rfl, hW⟩
theorem all_walk (s sub : ByteArray) (n : Int) (w0 : s.size ≤ maxLen) (w1 : sub.size ≤ maxLen) (w2 : (Lit.int .i64 n).wf = true) (w : World) (hT : BaseOK w) : Calls Tryd.prog 10 #[.string s, .string sub, .int .i64 n] w fun e w' => e = .returned (.bool true) ∧ Below w.heap.size w w' := by
  unfold maxLen at w0 w1
  obtain ⟨a0, a1⟩ : -9223372036854775808 ≤ n ∧ n ≤ 9223372036854775807 := by
    simp [Lit.wf, IntKind.min, IntKind.max, IntKind.signed, IntKind.bits] at w2; omega
  clear w2
  have hW := Below.refl w.heap.size w
  by_cases hall : s.size ≤ 3000 ∧ sub.size ≤ 300
  · obtain ⟨hs, hu⟩ := hall
    have M1 : Hid (NumOf s (numB s).1 (numB s).2) := num_of _ _ _ (by omega) rfl
    have M2 : Hid (∀ w, Calls Tryd.prog 18 #[.string s] w fun e w' => e = .returned (.tuple #[.int .i64 (numB s).1, .bool (numB s).2]) ∧ w = w') := fun w => rnumber_any s w (by omega)
    obtain ⟨x, hx⟩ : ∃ x, x = (numB s).1 := ⟨_, rfl⟩
    obtain ⟨y, hy⟩ : ∃ y, y = (numB s).2 := ⟨_, rfl⟩
    rw [← hx, ← hy] at M1 M2
    have M3 : Hid (StrOf 15 s (foldS s)) := fold_of _ _ (by omega) rfl
    have M4 : Hid (StrOf 19 s (foldS s)) := fun w _ => rfold_any s w (by omega)
    have M5 : Hid (DigOf n (digS n)) := dig_of _ _ a0 a1 rfl
    have M6 : Hid (∀ w, Calls Tryd.prog 20 #[.int .i64 n] w fun e w' => e = .returned (.string (digS n)) ∧ Below w.heap.size w w') := fun w => rdigits_any n.toNat n w (by omega) a1
    have M7 : Hid (AtomOf s (atomB s)) := atom_of _ _ (by omega) rfl
    have M8 : Hid (∀ w, Calls Tryd.prog 21 #[.string s] w fun e w' => e = .returned (.bool (atomB s)) ∧ w = w') := fun w => ratom_any s w (by omega)
    have M9 : Hid (StrOf 14 s (strS s)) := str_of _ _ (by omega) rfl
    have MA : Hid (StrOf 22 s (strS s)) := fun w _ => rstring_any s w (by omega)
    have MB : Hid (InOf 17 s sub (inB s sub)) := in_of _ _ _ (by omega) (by omega) rfl
    have MC : Hid (InOf 23 s sub (inB s sub)) := rin_of _ _ _ (by omega) (by omega) rfl
    clear hx hy
    go_enter Tryd.func10, Tryd.ntmps10
    go_wp2_with fail
    refine (M1.out _).mono ?_; rintro e w1 ⟨rfl, hw⟩; obtain rfl : _ = w1 := hw
    go_wp2_with fail
    refine (M2.out _).mono ?_; rintro e w1 ⟨rfl, hw⟩; obtain rfl : _ = w1 := hw
    go_wp2_with fail
    refine (M3.out _ (hT.tab hW)).mono ?_; rintro e w1 ⟨rfl, hw1⟩; (first | replace hW := nextB hW hw1 | replace hW := nextA hW hw1 | replace hW := nextB hW.drew hw1 | replace hW := nextAA hW hw1 | replace hW := nextAD hW hw1); clear hw1
    go_wp2_with fail
    refine (M4.out _ (hT.tab hW)).mono ?_; rintro e w1 ⟨rfl, hw1⟩; (first | replace hW := nextB hW hw1 | replace hW := nextA hW hw1 | replace hW := nextB hW.drew hw1 | replace hW := nextAA hW hw1 | replace hW := nextAD hW hw1); clear hw1
    go_wp2_with fail
    refine (M5.out _ (hT.tab hW)).mono ?_; rintro e w1 ⟨rfl, hw1⟩; (first | replace hW := nextB hW hw1 | replace hW := nextA hW hw1 | replace hW := nextB hW.drew hw1 | replace hW := nextAA hW hw1 | replace hW := nextAD hW hw1); clear hw1
    go_wp2_with fail
    refine (M6.out _).mono ?_; rintro e w1 ⟨rfl, hw1⟩; (first | replace hW := nextB hW hw1 | replace hW := nextA hW hw1 | replace hW := nextB hW.drew hw1 | replace hW := nextAA hW hw1 | replace hW := nextAD hW hw1); clear hw1
    go_wp2_with fail
    refine (M7.out _).mono ?_; rintro e w1 ⟨rfl, hw⟩; obtain rfl : _ = w1 := hw
    go_wp2_with fail
    refine (M8.out _).mono ?_; rintro e w1 ⟨rfl, hw⟩; obtain rfl : _ = w1 := hw
    go_wp2_with fail
    refine (M9.out _ (hT.tab hW)).mono ?_; rintro e w1 ⟨rfl, hw1⟩; (first | replace hW := nextB hW hw1 | replace hW := nextA hW hw1 | replace hW := nextB hW.drew hw1 | replace hW := nextAA hW hw1 | replace hW := nextAD hW hw1); clear hw1
    go_wp2_with fail
    refine (MA.out _ (hT.tab hW)).mono ?_; rintro e w1 ⟨rfl, hw1⟩; (first | replace hW := nextB hW hw1 | replace hW := nextA hW hw1 | replace hW := nextB hW.drew hw1 | replace hW := nextAA hW hw1 | replace hW := nextAD hW hw1); clear hw1
    go_wp2_with fail
    refine (MB.out _ (hT.max hW)).mono ?_; rintro e w1 ⟨rfl, hw1⟩; (first | replace hW := nextB hW hw1 | replace hW := nextA hW hw1 | replace hW := nextB hW.drew hw1 | replace hW := nextAA hW hw1 | replace hW := nextAD hW hw1); clear hw1
    go_wp2_with fail
    refine (MC.out _ (hT.max hW)).mono ?_; rintro e w1 ⟨rfl, hw1⟩; (first | replace hW := nextB hW hw1 | replace hW := nextA hW hw1 | replace hW := nextB hW.drew hw1 | replace hW := nextAA hW hw1 | replace hW := nextAD hW hw1); clear hw1
    go_wp2_with (go_at_call 13; refine (awake1_any _ (hT.tab hW)).mono ?_; rintro e w1 ⟨rfl, hw1⟩; (first | replace hW := nextB hW hw1 | replace hW := nextA hW hw1 | replace hW := nextB hW.drew hw1 | replace hW := nextAA hW hw1 | replace hW := nextAD hW hw1); clear hw1)
    go_ret
    exact ⟨rfl, hW⟩
  · by_cases hs : s.size ≤ 3000
    · have hu : ¬ sub.size ≤ 300 := fun h => hall ⟨hs, h⟩
      clear hall
      go_enter Tryd.func10, Tryd.ntmps10
      go_wp2_with (go_at_call 13; refine (awake1_any _ (hT.tab hW)).mono ?_; rintro e w1 ⟨rfl, hw1⟩; (first | replace hW := nextB hW hw1 | replace hW := nextA hW hw1 | replace hW := nextB hW.drew hw1 | replace hW := nextAA hW hw1 | replace hW := nextAD hW hw1); clear hw1)
      go_ret
      exact ⟨rfl, hW⟩
    · clear hall
      go_enter Tryd.func10, Tryd.ntmps10
      go_wp2_with (go_at_call 13; refine (awake1_any _ (hT.tab hW)).mono ?_; rintro e w1 ⟨rfl, hw1⟩; (first | replace hW := nextB hW hw1 | replace hW := nextA hW hw1 | replace hW := nextB hW.drew hw1 | replace hW := nextAA hW hw1 | replace hW := nextAD hW hw1); clear hw1)
      go_ret
      exact ⟨rfl, hW⟩
end Go.Proofs.YtejodjgeamaejaaDoor
