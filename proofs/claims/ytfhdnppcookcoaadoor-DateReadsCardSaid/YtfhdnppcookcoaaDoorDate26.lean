/- The laws DateBack and DateLeaps. -/
import Derived.Test.YtfhdnppcookcoaaDoorDate25
import Derived.Test.YtfhdnppcookcoaaDoorDate15
namespace Go.Proofs.YtfhdnppcookcoaaDoor
open Go.RowKit Go.PlainAid
set_option linter.unusedVariables false
set_option linter.unusedSimpArgs false
def DayIs (s : ByteArray) (v : Int × Int) : Prop := ∀ w, MaxOK w → Calls Tryd.prog 24 #[.string s] w (Read2End v w)
theorem DayIs.at_ {s : ByteArray} {a b : Int} (h : DayIs s (a, b)) {w : World} (hM : MaxOK w) : Calls Tryd.prog 24 #[.string s] w fun e w' => e = .returned (.tuple #[.int .i64 a, .int .i64 b]) ∧ Below w.heap.size w w' := h w hM
def RfcIs (s : ByteArray) (v : Int × Int) : Prop := ∀ w, TabOK w → Calls Tryd.prog 22 #[.string s] w (Read2End v w)
theorem RfcIs.at_ {s : ByteArray} {a b : Int} (h : RfcIs s (a, b)) {w : World} (hT : TabOK w) : Calls Tryd.prog 22 #[.string s] w fun e w' => e = .returned (.tuple #[.int .i64 a, .int .i64 b]) ∧ Below w.heap.size w w' := h w hT
theorem day_is (s : ByteArray) (v : Int × Int) (hs : s.size ≤ 1000) (h : readDayV s = v) : DayIs s v := fun w hM => by rw [← h]; exact readDay_any s w hs hM
theorem rfc_is (s : ByteArray) (v : Int × Int) (hs : s.size ≤ 1000) (h : readRfcV s = v) : RfcIs s v := fun w hT => by rw [← h]; exact readRfc_any s w hs hT
theorem imap_is (s : ByteArray) (v : Int × Int) (hs : s.size ≤ 1000) (h : readImapV s = v) : ReadIs s v := fun w => by rw [← h]; exact readImap_any s w hs
set_option maxRecDepth 100000 in
set_option maxHeartbeats 1000000 in
theorem back_walk (n : Int) (w0 : (Lit.int .u64 n).wf = true) (w : World) (hB : BaseOK w) : Calls Tryd.prog 9 #[.int .u64 n] w fun e w' => e = .returned (.bool true) ∧ Below w.heap.size w w' := by
  obtain ⟨a0, a1⟩ : 0 ≤ n ∧ n ≤ 18446744073709551615 := by
    simp [Lit.wf, IntKind.min, IntKind.max, IntKind.signed, IntKind.bits] at w0; omega
  clear w0
  have hW := Below.refl w.heap.size w
  have C1 : Hid (StrIs 13 (n % 253402300800) (imapS (n % 253402300800))) := fun w hT => Imap_any _ w (by omega) (by omega) hT
  have C2 : Hid (StrIs 19 (n % 253402300800) (rfcS (n % 253402300800))) := fun w hT => Rfc_any _ w (by omega) (by omega) hT
  obtain ⟨rb, z1⟩ := read_back (n % 253402300800) (by omega) (by omega)
  have z2 := rfcS_size (n % 253402300800)
  have R1 : Hid (ReadIs (imapS (n % 253402300800)) (n % 253402300800, 0)) := imap_is _ _ (by omega) rb
  have R2 : Hid (RfcIs (rfcS (n % 253402300800)) (n % 253402300800, 0)) := rfc_is _ _ (by omega) (rfc_back _ (by omega) (by omega))
  have hcs := day_back (n % 253402300800) (by omega) (by omega)
  have k0 : 0 ≤ n % 253402300800 := by omega
  have k1 : n % 253402300800 < 1000000000000 := by omega
  have K0 := Lib.hid k0
  have K1 := Lib.hid k1
  clear rb k0 k1
  generalize imapS (n % 253402300800) = T at *
  generalize rfcS (n % 253402300800) = S at *
  have hb := get_bt (T.extract 0 11)
  have s1 := ext_le T 0 11 (by omega)
  have s2 := ext_le (T.extract 0 11) 1 11 (by omega)
  rcases hcs with ⟨q, hd⟩ | ⟨q, hd⟩
  · have R3 : Hid (DayIs ((T.extract 0 11).extract 1 11) (n % 253402300800 / 86400 * 86400, 0)) := day_is _ _ (by omega) hd
    clear hd
    go_enter Tryd.func9, Tryd.ntmps9
    go_wp2_with fail
    generalize n % 253402300800 = k at *
    have k0 := K0.out
    have k1 := K1.out
    clear a0 a1
    refine (C1.out.at_ (hB.tab hW)).mono ?_; rintro e w1 ⟨rfl, hw1⟩; (first | replace hW := nextB hW hw1 | replace hW := nextA hW hw1 | replace hW := nextB hW.drew hw1 | replace hW := nextAA hW hw1 | replace hW := nextAD hW hw1); clear hw1
    go_wp2_with fail
    refine (R1.out.at_ _).mono ?_; rintro e w1 ⟨rfl, hw1⟩; (first | replace hW := nextB hW hw1 | replace hW := nextA hW hw1 | replace hW := nextB hW.drew hw1 | replace hW := nextAA hW hw1 | replace hW := nextAD hW hw1); clear hw1
    go_wp2_with fail
    refine (C2.out.at_ (hB.tab hW)).mono ?_; rintro e w1 ⟨rfl, hw1⟩; (first | replace hW := nextB hW hw1 | replace hW := nextA hW hw1 | replace hW := nextB hW.drew hw1 | replace hW := nextAA hW hw1 | replace hW := nextAD hW hw1); clear hw1
    go_wp2_with fail
    refine (R2.out.at_ (hB.tab hW)).mono ?_; rintro e w1 ⟨rfl, hw1⟩; (first | replace hW := nextB hW hw1 | replace hW := nextA hW hw1 | replace hW := nextB hW.drew hw1 | replace hW := nextAA hW hw1 | replace hW := nextAD hW hw1); clear hw1
    go_wp2_with fail
    refine (C1.out.at_ (hB.tab hW)).mono ?_; rintro e w1 ⟨rfl, hw1⟩; (first | replace hW := nextB hW hw1 | replace hW := nextA hW hw1 | replace hW := nextB hW.drew hw1 | replace hW := nextAA hW hw1 | replace hW := nextAD hW hw1); clear hw1
    go_wp2_with fail
    refine (R3.out.at_ (hB.max hW)).mono ?_; rintro e w1 ⟨rfl, hw1⟩; (first | replace hW := nextB hW hw1 | replace hW := nextA hW hw1 | replace hW := nextB hW.drew hw1 | replace hW := nextAA hW hw1 | replace hW := nextAD hW hw1); clear hw1
    go_wp2_with fail
    refine (num_any _ _).mono ?_; rintro e w1 ⟨rfl, hw⟩; obtain rfl : _ = w1 := hw
    go_wp2_with fail
    refine (num_any _ _).mono ?_; rintro e w1 ⟨rfl, hw⟩; obtain rfl : _ = w1 := hw
    go_wp2_with fail
    refine (num_any _ _).mono ?_; rintro e w1 ⟨rfl, hw⟩; obtain rfl : _ = w1 := hw
    go_wp2_with fail
    refine (awake_any _ (hB.tab hW)).mono ?_; rintro e w1 ⟨rfl, hw1⟩; (first | replace hW := nextB hW hw1 | replace hW := nextA hW hw1 | replace hW := nextB hW.drew hw1 | replace hW := nextAA hW hw1 | replace hW := nextAD hW hw1); clear hw1
    go_wp2_with fail
    go_ret
    exact ⟨rfl, hW⟩
  · have R3 : Hid (DayIs (T.extract 0 11) (n % 253402300800 / 86400 * 86400, 0)) := day_is _ _ (by omega) hd
    clear hd
    go_enter Tryd.func9, Tryd.ntmps9
    go_wp2_with fail
    generalize n % 253402300800 = k at *
    have k0 := K0.out
    have k1 := K1.out
    clear a0 a1
    refine (C1.out.at_ (hB.tab hW)).mono ?_; rintro e w1 ⟨rfl, hw1⟩; (first | replace hW := nextB hW hw1 | replace hW := nextA hW hw1 | replace hW := nextB hW.drew hw1 | replace hW := nextAA hW hw1 | replace hW := nextAD hW hw1); clear hw1
    go_wp2_with fail
    refine (R1.out.at_ _).mono ?_; rintro e w1 ⟨rfl, hw1⟩; (first | replace hW := nextB hW hw1 | replace hW := nextA hW hw1 | replace hW := nextB hW.drew hw1 | replace hW := nextAA hW hw1 | replace hW := nextAD hW hw1); clear hw1
    go_wp2_with fail
    refine (C2.out.at_ (hB.tab hW)).mono ?_; rintro e w1 ⟨rfl, hw1⟩; (first | replace hW := nextB hW hw1 | replace hW := nextA hW hw1 | replace hW := nextB hW.drew hw1 | replace hW := nextAA hW hw1 | replace hW := nextAD hW hw1); clear hw1
    go_wp2_with fail
    refine (R2.out.at_ (hB.tab hW)).mono ?_; rintro e w1 ⟨rfl, hw1⟩; (first | replace hW := nextB hW hw1 | replace hW := nextA hW hw1 | replace hW := nextB hW.drew hw1 | replace hW := nextAA hW hw1 | replace hW := nextAD hW hw1); clear hw1
    go_wp2_with fail
    refine (C1.out.at_ (hB.tab hW)).mono ?_; rintro e w1 ⟨rfl, hw1⟩; (first | replace hW := nextB hW hw1 | replace hW := nextA hW hw1 | replace hW := nextB hW.drew hw1 | replace hW := nextAA hW hw1 | replace hW := nextAD hW hw1); clear hw1
    go_wp2_with fail
    refine (R3.out.at_ (hB.max hW)).mono ?_; rintro e w1 ⟨rfl, hw1⟩; (first | replace hW := nextB hW hw1 | replace hW := nextA hW hw1 | replace hW := nextB hW.drew hw1 | replace hW := nextAA hW hw1 | replace hW := nextAD hW hw1); clear hw1
    go_wp2_with fail
    refine (num_any _ _).mono ?_; rintro e w1 ⟨rfl, hw⟩; obtain rfl : _ = w1 := hw
    go_wp2_with fail
    refine (num_any _ _).mono ?_; rintro e w1 ⟨rfl, hw⟩; obtain rfl : _ = w1 := hw
    go_wp2_with fail
    refine (num_any _ _).mono ?_; rintro e w1 ⟨rfl, hw⟩; obtain rfl : _ = w1 := hw
    go_wp2_with fail
    refine (awake_any _ (hB.tab hW)).mono ?_; rintro e w1 ⟨rfl, hw1⟩; (first | replace hW := nextB hW hw1 | replace hW := nextA hW hw1 | replace hW := nextB hW.drew hw1 | replace hW := nextAA hW hw1 | replace hW := nextAD hW hw1); clear hw1
    go_wp2_with fail
    go_ret
    exact ⟨rfl, hW⟩
end Go.Proofs.YtfhdnppcookcoaaDoor
