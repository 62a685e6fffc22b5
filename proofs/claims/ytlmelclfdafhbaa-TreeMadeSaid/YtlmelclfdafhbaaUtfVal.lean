/- The walks of package utf8, Valid and Cut. -/
import Derived.Test.YtlmelclfdafhbaaUtfGet
namespace Go.Proofs.Ytlmelclfdafhbaa
open Go.RowKit Go.PlainAid
set_option linter.unusedVariables false
set_option linter.unusedSimpArgs false
theorem toList_len (s : ByteArray) : s.toList.length = s.size := by rw [ByteArray.toList_eq]; simp
theorem drop_ne (s : ByteArray) (k : Nat) (h : k < s.size) : s.toList.drop k ≠ [] := by
  intro e
  have := congrArg List.length e
  rw [List.length_drop, toList_len] at this
  simp at this
  omega
def GetAt (f : Nat) (s : ByteArray) (k : Nat) (v : Int × Int) : Prop := ∀ w, Calls Try.prog f #[.string s, .int .i64 k] w (GetEnd v w)
def GetFn (f : Nat) : Prop := ∀ (s : ByteArray) (k : Nat), s.size ≤ 9223372036854775807 → k < s.size → GetAt f s k (getL s.toList k)
theorem get_fn : GetFn 25 := fun s k hs h w => get_any s k w hs h
theorem valid_any (s : ByteArray) (w : World) (hs : s.size ≤ 9223372036854775807) : Calls Try.prog 19 #[.string s] w fun e w' => e = .returned (.bool (validB s.toList)) ∧ Below w.heap.size w w' := by
  go_enter Try.func19, Try.ntmps19
  go_wp2
  go_loopw [3] (fun i wr => ∃ k : Nat, k ≤ s.size ∧ i = .int .i64 k ∧ Hid (validB (s.toList.drop k) = validB s.toList) ∧ Below w.heap.size w wr) (fun i _ => s.size - (intOf i).toNat)
  case atStart => exact ⟨0, by omega, rfl, rfl, Below.refl _ _⟩
  case round =>
    obtain ⟨k, hk, rfl, hv, hb⟩ := hrel
    by_cases hlt : k < s.size
    · have hz := Lib.hid (get_fn s k hs hlt)
      cases hd : decL (s.toList.drop k) with
      | none =>
        have HG : Hid (GetAt 25 s k (-1, k)) := by have := hz.out; unfold getL at this; rw [hd] at this; exact this
        have HN := Lib.hid (validB_none _ (drop_ne s k hlt) hd)
        clear hz hd
        go_wp2_with (go_at_call 25; refine (HG.out _).mono ?_; rintro e w1 ⟨rfl, hw1⟩)
        go_ret
        exact ⟨by rw [← hv.out, HN.out]; rfl, hb.trans (hw1.mono hb.size)⟩
      | some p =>
        obtain ⟨r, n⟩ := p
        have HG : Hid (GetAt 25 s k (r, k + n)) := by have := hz.out; unfold getL at this; rw [hd] at this; exact this
        have HN := Lib.hid (validB_some _ r n hd)
        obtain ⟨d1, d2, d3⟩ := dec_le _ r n hd
        rw [List.length_drop, toList_len] at d2
        have d4 : k + n ≤ s.size := by omega
        clear hz hd
        go_wp2_with (go_at_call 25; refine (HG.out _).mono ?_; rintro e w1 ⟨rfl, hw1⟩)
        go_roundw
        case rel => exact ⟨k + n, by omega, by go_num, by show _ = _; rw [← List.drop_drop, HN.out, hv.out], hb.trans (hw1.mono hb.size)⟩
        case measure => simp [intOf]; omega
    · obtain rfl : k = s.size := by omega
      have e0 : s.toList.drop s.size = [] := by rw [List.drop_eq_nil_iff, toList_len]; omega
      have E0 := Lib.hid e0
      clear e0
      go_wp2
      go_ret
      exact ⟨by rw [← hv.out, E0.out, validB_nil]; rfl, hb⟩
def cut (s : ByteArray) (n : Int) : ByteArray := s.extract 0 (cutL n.toNat s.toList)
theorem cutL_done (n : Int) (l : List UInt8) (h : n ≤ 0) : cutL n.toNat l = 0 := by
  have : n.toNat = 0 := by omega
  rw [this]; rfl
theorem cutL_none (n : Int) (l : List UInt8) (h : decL l = none) : cutL n.toNat l = 0 := by
  cases n.toNat with
  | zero => rfl
  | succ m => simp only [cutL, h]
theorem cutL_some (n : Int) (l : List UInt8) (r : Int) (m : Nat) (h : decL l = some (r, m)) (hn : 0 < n) : cutL n.toNat l = m + cutL (n - 1).toNat (l.drop m) := by
  have : n.toNat = (n - 1).toNat + 1 := by omega
  rw [this]; simp only [cutL, h]
theorem ret_str {a b : ByteArray} (h : a = b) : Ending.returned (.string a) = .returned (.string b) := by rw [h]
end Go.Proofs.Ytlmelclfdafhbaa
