/- The walks of package text: Fold, both. -/
import Derived.Test.YtlmelclfdafhbaaText0
namespace Go.Proofs.Ytlmelclfdafhbaa
open Go.RowKit Go.PlainAid
set_option linter.unusedVariables false
set_option linter.unusedSimpArgs false
set_option maxHeartbeats 400000 in
theorem fold_any (s : ByteArray) (w : World) (hs : s.size ≤ 1099511627) : Calls Try.prog 15 #[.string s] w fun e w' => e = .returned (.string (foldS s)) ∧ Below w.heap.size w w' := by
  have hb := get_bt s
  go_enter Try.func15, Try.ntmps15
  go_wp2_with (at_make; refine wpList_make_bytes _ rfl _ (.tmp 7) rfl w.heap.size _ s.size rfl rfl rfl (by omega) (Nat.le_refl _) ?_; intro v w1 hown hb1)
  go_loopw [3, 11] (fun v i wr => ∃ k : Nat, k ≤ s.size ∧ i = .int .i64 k ∧ OwnB wr w.heap.size v (foldZ s k) ∧ Below w.heap.size w wr) (fun _ i _ => s.size - (intOf i).toNat)
  case atStart => exact ⟨0, by omega, rfl, hown, hb1⟩
  case round =>
    obtain ⟨k, hk, rfl, hown, hW⟩ := hrel
    have b0 := bt_nonneg s k
    have b1 := bt_le s k
    have hl := foldZ_len s k
    have HL := Lib.hid hl
    clear hl
    by_cases hlt : k < s.size
    · have HS := Lib.hid (foldZ_succ s k)
      by_cases h65 : 65 ≤ bt s k
      · by_cases h90 : bt s k ≤ 90
        · have HF := Lib.hid (foldN_up h65 h90)
          go_wp2_with (at_builtin; refine wpList_push _ rfl (.tmp 25) (.tmp 27) rfl w.heap.size _ _ rfl hown _ rfl (by rw [HL.out]; omega) hW.size ?_; intro v' w2 hown' hb2)
          go_roundw
          case rel => exact ⟨k + 1, by omega, by go_num, by rw [HS.out, HF.out]; exact hown', hW.trans hb2⟩
          case measure => simp [intOf]; omega
        · have HF := Lib.hid (foldN_no (c := bt s k) (by omega))
          go_wp2_with (at_builtin; refine wpList_push _ rfl (.tmp 25) (.tmp 27) rfl w.heap.size _ _ rfl hown _ rfl (by rw [HL.out]; omega) hW.size ?_; intro v' w2 hown' hb2)
          go_roundw
          case rel => exact ⟨k + 1, by omega, by go_num, by rw [HS.out, HF.out]; exact hown', hW.trans hb2⟩
          case measure => simp [intOf]; omega
      · have HF := Lib.hid (foldN_no (c := bt s k) (by omega))
        go_wp2_with (at_builtin; refine wpList_push _ rfl (.tmp 25) (.tmp 27) rfl w.heap.size _ _ rfl hown _ rfl (by rw [HL.out]; omega) hW.size ?_; intro v' w2 hown' hb2)
        go_roundw
        case rel => exact ⟨k + 1, by omega, by go_num, by rw [HS.out, HF.out]; exact hown', hW.trans hb2⟩
        case measure => simp [intOf]; omega
    · obtain rfl : k = s.size := by omega
      have hc := hown.conv
      go_wp2
      go_ret
      exact ⟨rfl, hW⟩
end Go.Proofs.Ytlmelclfdafhbaa
