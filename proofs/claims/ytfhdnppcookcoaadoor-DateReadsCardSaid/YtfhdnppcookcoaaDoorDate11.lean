/- The examples' values. -/
import Derived.Test.YtfhdnppcookcoaaDoorDate10
import Derived.Test.YtfhdnppcookcoaaDoorDate8
namespace Go.Proofs.YtfhdnppcookcoaaDoor
open Go.RowKit Go.PlainAid
set_option linter.unusedVariables false
set_option linter.unusedSimpArgs false
theorem ex_civ0 : civ 0 = (1970, 1, 1) := by decide +kernel
theorem ex_rfc0 : rfcV 1970 1 1 0 = ⟨#[49, 57, 55, 48, 45, 48, 49, 45, 48, 49, 84, 48, 48, 58, 48, 48, 58, 48, 48, 90]⟩ := by
  unfold rfcV
  rw [wideS_four 1970 (by omega) (by omega), wideS_two 1 (by omega) (by omega), wideS_two _ (by omega) (by omega), wideS_two _ (by omega) (by omega)]
  decide +kernel
theorem ex_read : readImapV ⟨#[48, 49, 45, 74, 97, 110, 45, 49, 57, 55, 48, 32, 48, 49, 58, 48, 48, 58, 48, 48, 32, 43, 48, 49, 48, 48]⟩ = (0, 0) := by decide +kernel
theorem secs_low (n : Int) (h : n ≤ 0) : secs n = 0 := by unfold secs; omega
theorem secs_high (n : Int) (h : 253402300799 ≤ n) : secs n = 253402300799 := by unfold secs; omega
theorem secs_in (n : Int) (h0 : 0 ≤ n) (h : n ≤ 253402300799) : secs n = n := by unfold secs; omega
theorem rfc_low (n : Int) (h : n ≤ 0) : rfcS n = ⟨#[49, 57, 55, 48, 45, 48, 49, 45, 48, 49, 84, 48, 48, 58, 48, 48, 58, 48, 48, 90]⟩ := by
  unfold rfcS
  rw [secs_low n h, show (0 : Int) / 86400 = 0 from rfl, show (0 : Int) % 86400 = 0 from rfl, ex_civ0]
  exact ex_rfc0
theorem rfc_high (n : Int) (h : 253402300799 ≤ n) : rfcS n = ⟨#[57, 57, 57, 57, 45, 49, 50, 45, 51, 49, 84, 50, 51, 58, 53, 57, 58, 53, 57, 90]⟩ := by
  unfold rfcS
  rw [secs_high n h, show (253402300799 : Int) / 86400 = 2932896 by decide +kernel, show (253402300799 : Int) % 86400 = 86399 by decide +kernel, show civ 2932896 = (9999, 12, 31) by decide +kernel]
  unfold rfcV
  rw [wideS_four 9999 (by omega) (by omega), wideS_two 12 (by omega) (by omega), wideS_two 31 (by omega) (by omega), wideS_two (86399 / 3600) (by omega) (by omega), wideS_two (86399 / 60 % 60) (by omega) (by omega), wideS_two (86399 % 60) (by omega) (by omega)]
  decide +kernel
theorem imap_low (n : Int) (h : n ≤ 0) : imapS n = ⟨#[32, 49, 45, 74, 97, 110, 45, 49, 57, 55, 48, 32, 48, 48, 58, 48, 48, 58, 48, 48, 32, 43, 48, 48, 48, 48]⟩ := by
  unfold imapS
  rw [secs_low n h, show (0 : Int) / 86400 = 0 from rfl, show (0 : Int) % 86400 = 0 from rfl, ex_civ0]
  unfold imapV dayS
  rw [wideS_four 1970 (by omega) (by omega), wideS_two (0 / 3600) (by omega) (by omega), wideS_two (0 / 60 % 60) (by omega) (by omega), wideS_two (0 % 60) (by omega) (by omega), digS_one 1 (by omega) (by omega)]
  decide +kernel
def StrIs (f : FuncId) (n : Int) (S : ByteArray) : Prop := ∀ w, TabOK w → Calls Tryd.prog f #[.int .i64 n] w fun e w' => e = .returned (.string S) ∧ Below w.heap.size w w'
def BoolBelow (b : Bool) (w : World) (e : Ending) (w' : World) : Prop := e = .returned (.bool b) ∧ Below w.heap.size w w'
theorem num_any (n : Int) (w : World) : Calls Tryd.prog 16 #[.int .i64 n] w fun e w' => e = .returned (.int .i64 n) ∧ w = w' := by
  go_enter Tryd.func16, Tryd.ntmps16
  go_wp2
  go_ret
  exact ⟨rfl, rfl⟩
set_option maxRecDepth 100000 in
set_option maxHeartbeats 400000 in
theorem awake_any (w : World) (hT : TabOK w) : Calls Tryd.prog 12 #[] w (BoolBelow true w) := by
  have hW := Below.refl w.heap.size w
  have H1 : Hid (∀ w, Calls Tryd.prog 14 #[.string ⟨#[48, 49, 45, 74, 97, 110, 45, 49, 57, 55, 48, 32, 48, 49, 58, 48, 48, 58, 48, 48, 32, 43, 48, 49, 48, 48]⟩] w (Read2End (0, 0) w)) := fun w => by
    rw [← ex_read]; exact readImap_any _ w (by decide)
  have H2 : Hid (StrIs 13 0 ⟨#[32, 49, 45, 74, 97, 110, 45, 49, 57, 55, 48, 32, 48, 48, 58, 48, 48, 58, 48, 48, 32, 43, 48, 48, 48, 48]⟩) := fun w hT => by
    rw [← imap_low 0 (by omega)]; exact Imap_any 0 w (by omega) (by omega) hT
  go_enter Tryd.func12, Tryd.ntmps12
  go_wp2_with fail
  refine (H1.out _).mono ?_; rintro e w1 ⟨rfl, hw1⟩; (first | replace hW := nextB hW hw1 | replace hW := nextA hW hw1 | replace hW := nextB hW.drew hw1 | replace hW := nextAA hW hw1 | replace hW := nextAD hW hw1); clear hw1
  go_wp2_with fail
  refine (H2.out _ (hT.below hW)).mono ?_; rintro e w1 ⟨rfl, hw1⟩; (first | replace hW := nextB hW hw1 | replace hW := nextA hW hw1 | replace hW := nextB hW.drew hw1 | replace hW := nextAA hW hw1 | replace hW := nextAD hW hw1); clear hw1
  go_wp2_with fail
  refine (num_any _ _).mono ?_; rintro e w1 ⟨rfl, hw⟩; obtain rfl : _ = w1 := hw
  go_wp2_with fail
  go_ret
  exact ⟨rfl, hW⟩
end Go.Proofs.YtfhdnppcookcoaaDoor
