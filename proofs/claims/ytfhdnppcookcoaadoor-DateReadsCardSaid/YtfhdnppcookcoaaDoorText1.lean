/- The walks of package text: Fold, both. -/
import Derived.Test.YtfhdnppcookcoaaDoorText0
namespace Go.Proofs.YtfhdnppcookcoaaDoor
open Go.RowKit Go.PlainAid
set_option linter.unusedVariables false
set_option linter.unusedSimpArgs false
set_option maxHeartbeats 400000 in
theorem fold_any (s : ByteArray) (w : World) (hs : s.size ≤ 1099511627) : Calls Tryd.prog 58 #[.string s] w fun e w' => e = .returned (.string (foldS s)) ∧ Below w.heap.size w w' := by
  have hb := get_bt s
  go_enter Tryd.func58, Tryd.ntmps58
  go_wp2_with (at_make; refine wpList_make_bytes _ rfl _ (.tmp 7) rfl w.heap.size _ s.size rfl rfl rfl (by omega) (Nat.le_refl _) ?_; intro v w1 hown hb1)
  go_loopw [3, 11] (fun v i wr => ∃ k : Nat, k ≤ s.size ∧ i = .int .i64 k ∧ OwnB wr w.heap.size v (foldZ s k) ∧ Below w.heap.size w wr) (fun _ i _ => s.size - (intOf i).toNat)
  case atStart => exact ⟨0, by omega, rfl, hown, hb1⟩
  case round =>
    obtain ⟨k, hk, rfl, hown, hW⟩ := hrel
    have b0 := bt_nonneg s k
    have b1 := bt_le s k
    have hl := foldZ_len s k
    have HL := Lib.hid hl
    clear hl
    by_cases hlt : k < s.size
    · have HS := Lib.hid (foldZ_succ s k)
      by_cases h65 : 65 ≤ bt s k
      · by_cases h90 : bt s k ≤ 90
        · have HF := Lib.hid (foldN_up h65 h90)
          go_wp2_with (at_builtin; refine wpList_push _ rfl (.tmp 25) (.tmp 27) rfl w.heap.size _ _ rfl hown _ rfl (by rw [HL.out]; omega) hW.size ?_; intro v' w2 hown' hb2)
          go_roundw
          case rel => exact ⟨k + 1, by omega, by go_num, by rw [HS.out, HF.out]; exact hown', hW.trans hb2⟩
          case measure => simp [intOf]; omega
        · have HF := Lib.hid (foldN_no (c := bt s k) (by omega))
          go_wp2_with (at_builtin; refine wpList_push _ rfl (.tmp 25) (.tmp 27) rfl w.heap.size _ _ rfl hown _ rfl (by rw [HL.out]; omega) hW.size ?_; intro v' w2 hown' hb2)
          go_roundw
          case rel => exact ⟨k + 1, by omega, by go_num, by rw [HS.out, HF.out]; exact hown', hW.trans hb2⟩
          case measure => simp [intOf]; omega
      · have HF := Lib.hid (foldN_no (c := bt s k) (by omega))
        go_wp2_with (at_builtin; refine wpList_push _ rfl (.tmp 25) (.tmp 27) rfl w.heap.size _ _ rfl hown _ rfl (by rw [HL.out]; omega) hW.size ?_; intro v' w2 hown' hb2)
        go_roundw
        case rel => exact ⟨k + 1, by omega, by go_num, by rw [HS.out, HF.out]; exact hown', hW.trans hb2⟩
        case measure => simp [intOf]; omega
    · obtain rfl : k = s.size := by omega
      have hc := hown.conv
      go_wp2
      go_ret
      exact ⟨rfl, hW⟩
def fmixN (s : ByteArray) (k j : Nat) : Int := if j < k then foldN (bt s j) else bt s j
theorem fmix_set (s : ByteArray) (k j : Nat) (x : Int) (h : x = foldN (bt s k)) : (if j = k then x else fmixN s k j) = fmixN s (k + 1) j := by
  unfold fmixN
  by_cases e : j = k
  · subst e; rw [if_pos rfl, if_pos (by omega), h]
  · rw [if_neg e]
    by_cases h2 : j < k
    · rw [if_pos h2, if_pos (by omega)]
    · rw [if_neg h2, if_neg (by omega)]
theorem fmix_same (s : ByteArray) (k j : Nat) (h : foldN (bt s k) = bt s k) : fmixN s k j = fmixN s (k + 1) j := by
  rw [← fmix_set s k j (bt s k) h.symm]
  by_cases e : j = k
  · subst e; rw [if_pos rfl]; unfold fmixN; rw [if_neg (by omega)]
  · rw [if_neg e]
theorem fmix_here (s : ByteArray) (k : Nat) : fmixN s k k = bt s k := by unfold fmixN; rw [if_neg (by omega)]
theorem fmix_all (s : ByteArray) (n j : Nat) (h : j < n) : fmixN s n j = foldN (bt s j) := by unfold fmixN; rw [if_pos h]
set_option maxHeartbeats 400000 in
theorem rfold_any (s : ByteArray) (w : World) (hs : s.size ≤ 1099511627) : Calls Tryd.prog 49 #[.string s] w fun e w' => e = .returned (.string (foldS s)) ∧ Below w.heap.size w w' := by
  go_enter Tryd.func49, Tryd.ntmps49
  go_wp2_with (with_reducible refine wpList_bytes_of _ rfl (.tmp 5) rfl s rfl ?_; intro g c w1 hg1 hg2 hrow hb1)
  go_loopw [4] (fun i wr => ∃ k : Nat, k ≤ s.size ∧ i = .int .i64 k ∧ RowF wr g s.size (fmixN s k) ∧ Below w.heap.size w wr) (fun i _ => s.size - (intOf i).toNat)
  case atStart => exact ⟨0, by omega, rfl, hrow.congr fun j _ => by unfold fmixN; rw [if_neg (by omega)], hb1⟩
  case round =>
    obtain ⟨k, hk, rfl, hrow, hW⟩ := hrel
    have b0 := bt_nonneg s k
    have b1 := bt_le s k
    by_cases hlt : k < s.size
    · obtain ⟨q1, q2⟩ := hrow k hlt
      rw [fmix_here] at q1
      by_cases h65 : 65 ≤ bt s k
      · by_cases h90 : bt s k ≤ 90
        · have HF := Lib.hid (foldN_up h65 h90)
          go_wp2
          go_roundw
          case rel => exact ⟨k + 1, by omega, by go_num, (hrow.set k _).congr fun j _ => fmix_set s k j _ HF.out.symm, hW.setCell (p := ⟨g, k, none⟩) hg1 _⟩
          case measure => simp [intOf]; omega
        · have HF := Lib.hid (foldN_no (c := bt s k) (by omega))
          go_wp2
          go_roundw
          case rel => exact ⟨k + 1, by omega, by go_num, hrow.congr fun j _ => fmix_same s k j HF.out, hW⟩
          case measure => simp [intOf]; omega
      · have HF := Lib.hid (foldN_no (c := bt s k) (by omega))
        go_wp2
        go_roundw
        case rel => exact ⟨k + 1, by omega, by go_num, hrow.congr fun j _ => fmix_same s k j HF.out, hW⟩
        case measure => simp [intOf]; omega
    · obtain rfl : k = s.size := by omega
      have hc := (hrow.congr fun j hj => fmix_all s s.size j hj).conv c
      go_wp2
      go_ret
      exact ⟨rfl, hW⟩
end Go.Proofs.YtfhdnppcookcoaaDoor
