/- The law DateReads. -/
import Derived.Test.YtfhdnppcookcoaaDoorDate34
import Derived.Test.YtfhdnppcookcoaaDoorDate36
namespace Go.Proofs.YtfhdnppcookcoaaDoor
open Go.RowKit Go.PlainAid
set_option linter.unusedVariables false
set_option linter.unusedSimpArgs false
def RImapIs (s : ByteArray) (v : Int × Int) : Prop := ∀ w, Calls Tryd.prog 21 #[.string s] w (Read2End v w)
theorem RImapIs.at_ {s : ByteArray} {a b : Int} (h : RImapIs s (a, b)) (w : World) : Calls Tryd.prog 21 #[.string s] w fun e w' => e = .returned (.tuple #[.int .i64 a, .int .i64 b]) ∧ Below w.heap.size w w' := h w
def RDayIs (s : ByteArray) (v : Int × Int) : Prop := ∀ w, Calls Tryd.prog 25 #[.string s] w (Read2End v w)
theorem RDayIs.at_ {s : ByteArray} {a b : Int} (h : RDayIs s (a, b)) (w : World) : Calls Tryd.prog 25 #[.string s] w fun e w' => e = .returned (.tuple #[.int .i64 a, .int .i64 b]) ∧ Below w.heap.size w w' := h w
def RRfcIs (s : ByteArray) (v : Int × Int) : Prop := ∀ w, TabOK w → Calls Tryd.prog 23 #[.string s] w (Read2End v w)
theorem RRfcIs.at_ {s : ByteArray} {a b : Int} (h : RRfcIs s (a, b)) {w : World} (hT : TabOK w) : Calls Tryd.prog 23 #[.string s] w fun e w' => e = .returned (.tuple #[.int .i64 a, .int .i64 b]) ∧ Below w.heap.size w w' := h w hT
set_option maxRecDepth 100000 in
set_option maxHeartbeats 1000000 in
theorem reads_walk (s : ByteArray) (w0 : s.size ≤ maxLen) (w : World) (hB : BaseOK w) : Calls Tryd.prog 8 #[.string s] w fun e w' => e = .returned (.bool true) ∧ Below w.heap.size w w' := by
  unfold maxLen at w0
  have hW := Below.refl w.heap.size w
  by_cases h100 : 100 < s.size
  · go_enter Tryd.func8, Tryd.ntmps8
    go_wp2_with fail
    refine (awake_any _ (hB.tab hW)).mono ?_; rintro e w1 ⟨rfl, hw1⟩; (first | replace hW := nextB hW hw1 | replace hW := nextA hW hw1 | replace hW := nextB hW.drew hw1 | replace hW := nextAA hW hw1 | replace hW := nextAD hW hw1); clear hw1
    go_wp2_with fail
    go_ret
    exact ⟨rfl, hW⟩
  · have R1 : Hid (ReadIs s (readImapV s)) := imap_is s _ (by omega) rfl
    have R2 : Hid (RImapIs s (readImapV s)) := fun w => by rw [← rimap_eq]; exact rReadImap_any s w (by omega)
    have R3 : Hid (RfcIs s (readRfcV s)) := rfc_is s _ (by omega) rfl
    have R4 : Hid (RRfcIs s (readRfcV s)) := fun w hT => by rw [← rfc_eq]; exact rReadRfc_any s w (by omega) hT
    have R5 : Hid (DayIs s (readDayV s)) := day_is s _ (by omega) rfl
    have R6 : Hid (RDayIs s (readDayV s)) := fun w => by rw [← day_eq]; exact rReadDay_any s w (by omega)
    generalize readImapV s = p1 at *
    generalize readRfcV s = p2 at *
    generalize readDayV s = p3 at *
    obtain ⟨a, b⟩ := p1
    obtain ⟨c, d⟩ := p2
    obtain ⟨e, f⟩ := p3
    go_enter Tryd.func8, Tryd.ntmps8
    go_wp2_with fail
    refine (R1.out.at_ _).mono ?_; rintro e w1 ⟨rfl, hw1⟩; (first | replace hW := nextB hW hw1 | replace hW := nextA hW hw1 | replace hW := nextB hW.drew hw1 | replace hW := nextAA hW hw1 | replace hW := nextAD hW hw1); clear hw1
    go_wp2_with fail
    refine (R2.out.at_ _).mono ?_; rintro e w1 ⟨rfl, hw1⟩; (first | replace hW := nextB hW hw1 | replace hW := nextA hW hw1 | replace hW := nextB hW.drew hw1 | replace hW := nextAA hW hw1 | replace hW := nextAD hW hw1); clear hw1
    go_wp2_with fail
    refine (R3.out.at_ (hB.tab hW)).mono ?_; rintro e w1 ⟨rfl, hw1⟩; (first | replace hW := nextB hW hw1 | replace hW := nextA hW hw1 | replace hW := nextB hW.drew hw1 | replace hW := nextAA hW hw1 | replace hW := nextAD hW hw1); clear hw1
    go_wp2_with fail
    refine (R4.out.at_ (hB.tab hW)).mono ?_; rintro e w1 ⟨rfl, hw1⟩; (first | replace hW := nextB hW hw1 | replace hW := nextA hW hw1 | replace hW := nextB hW.drew hw1 | replace hW := nextAA hW hw1 | replace hW := nextAD hW hw1); clear hw1
    go_wp2_with fail
    refine (R5.out.at_ (hB.max hW)).mono ?_; rintro e w1 ⟨rfl, hw1⟩; (first | replace hW := nextB hW hw1 | replace hW := nextA hW hw1 | replace hW := nextB hW.drew hw1 | replace hW := nextAA hW hw1 | replace hW := nextAD hW hw1); clear hw1
    go_wp2_with fail
    refine (R6.out.at_ _).mono ?_; rintro e w1 ⟨rfl, hw1⟩; (first | replace hW := nextB hW hw1 | replace hW := nextA hW hw1 | replace hW := nextB hW.drew hw1 | replace hW := nextAA hW hw1 | replace hW := nextAD hW hw1); clear hw1
    go_wp2_with fail
    refine (num_any _ _).mono ?_; rintro e w1 ⟨rfl, hw⟩; obtain rfl : _ = w1 := hw
    go_wp2_with fail
    refine (num_any _ _).mono ?_; rintro e w1 ⟨rfl, hw⟩; obtain rfl : _ = w1 := hw
    go_wp2_with fail
    refine (num_any _ _).mono ?_; rintro e w1 ⟨rfl, hw⟩; obtain rfl : _ = w1 := hw
    go_wp2_with fail
    refine (awake_any _ (hB.tab hW)).mono ?_; rintro e w1 ⟨rfl, hw1⟩; (first | replace hW := nextB hW hw1 | replace hW := nextA hW hw1 | replace hW := nextB hW.drew hw1 | replace hW := nextAA hW hw1 | replace hW := nextAD hW hw1); clear hw1
    go_wp2_with fail
    go_ret
    exact ⟨rfl, hW⟩
end Go.Proofs.YtfhdnppcookcoaaDoor
