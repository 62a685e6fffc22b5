/- The law DateZones. -/
import Derived.Test.YtfhdnppcookcoaaDoorDate11
import Derived.Test.YtfhdnppcookcoaaDoorDate17
import Derived.Deep.RegionHeld3
namespace Go.Proofs.YtfhdnppcookcoaaDoor
open Go.RowKit Go.PlainAid
set_option linter.unusedVariables false
set_option linter.unusedSimpArgs false
theorem conv2s (w : World) (a b : Int) (c : Nat) : (convert 49 9 (.slice (some ⟨w.heap.size, 0, none⟩) 2 c)).run Tryd.prog (w.alloc (.cells #[.int .u8 a, .int .u8 b] 5)) = .ok (.string (strOfNums [a, b])) (w.alloc (.cells #[.int .u8 a, .int .u8 b] 5)) :=
  conv2 49 9 5 Tryd.underlying49 Tryd.underlying5 Tryd.underlying9 w a b c
section
attribute [local go_sem] conv2s
theorem two6_any (n : Int) (w : World) (h0 : 0 ≤ n) (h1 : n < 100) : Calls Tryd.prog 15 #[.int .i64 n] w (StrBelow (strOfNums (twoL n)) w) := by
  go_enter Tryd.func15, Tryd.ntmps15
  go_wp2
  go_ret
  exact ⟨rfl, (Below.refl _ _).alloc (Nat.le_refl _) _⟩
end
theorem zones_told (k h m : Int) (g : UInt8) (hg : (g.toNat : Int) = 43 ∨ (g.toNat : Int) = 45) (h0 : 0 ≤ h) (h1 : h < 24) (m0 : 0 ≤ m) (m1 : m < 60) (k0 : 0 ≤ k) (k1 : k ≤ 253402300799) (x : Int) (hx : x = k + (if (g.toNat : Int) = 45 then -(h * 3600 + m * 60) else h * 3600 + m * 60)) (x0 : 0 ≤ x) (x1 : x ≤ 253402300799) :
    (imapS x).size = 26 ∧ readImapV ((imapS x).extract 0 21 ++ ⟨#[g]⟩ ++ strOfNums (twoL h) ++ strOfNums (twoL m)) = (k, 0) := by
  obtain ⟨p, d, a, b, c, y, mo, hr, mi, se, e, hp, d0, d1, ha, hb, hc, y0, y1, r0, r1, i0, i1, s0, s1, hm, v, hd, hs⟩ := imapS_nums x x0 x1
  refine ⟨by rw [e, strOfNums_size]; rfl, ?_⟩
  have eg : (⟨#[g]⟩ : ByteArray) = strOfNums [(g.toNat : Int)] := by
    apply ba_ext'
    rw [nums_toList, ByteArray.toList_eq]
    simp
  rw [e, eg, nums_ext _ _ _ (by omega), nums_app, nums_app, nums_app]
  have et : ((told p d a b c y hr mi se 43 0 0).drop 0).take (21 - 0) ++ [(g.toNat : Int)] ++ twoL h ++ twoL m = told p d a b c y hr mi se (g.toNat : Int) h m := rfl
  rw [et, told_ok p d a b c y hr mi se _ h m mo hp d0 d1 ⟨by omega, ha.2⟩ ⟨by omega, hb.2⟩ ⟨by omega, hc.2⟩ y0 y1 r0 r1 i0 i1 s0 s1 hg h0 h1 m0 m1 hm v, hd, hs]
  have ek : x / 86400 * 86400 + x % 86400 - (if (g.toNat : Int) = 45 then -(h * 3600 + m * 60) else h * 3600 + m * 60) = k := by omega
  rw [ek, if_pos ⟨k0, k1⟩]
def TwoIs (n : Int) (A : ByteArray) : Prop := ∀ w, Calls Tryd.prog 15 #[.int .i64 n] w (StrBelow A w)
theorem TwoIs.at_ {n : Int} {A : ByteArray} (h : TwoIs n A) (w : World) : Calls Tryd.prog 15 #[.int .i64 n] w fun e w' => e = .returned (.string A) ∧ Below w.heap.size w w' := h w
def ReadIs (s : ByteArray) (v : Int × Int) : Prop := ∀ w, Calls Tryd.prog 14 #[.string s] w (Read2End v w)
theorem ReadIs.at_ {s : ByteArray} {a b : Int} (h : ReadIs s (a, b)) (w : World) : Calls Tryd.prog 14 #[.string s] w fun e w' => e = .returned (.tuple #[.int .i64 a, .int .i64 b]) ∧ Below w.heap.size w w' := h w
theorem StrIs.at_ {f : FuncId} {n : Int} {S : ByteArray} (h : StrIs f n S) {w : World} (hT : TabOK w) : Calls Tryd.prog f #[.int .i64 n] w fun e w' => e = .returned (.string S) ∧ Below w.heap.size w w' := h w hT
set_option maxRecDepth 100000 in
set_option maxHeartbeats 1000000 in
theorem zones_walk (n hh mm : Int) (west : Bool) (w0 : (Lit.int .u32 n).wf = true) (w1 : (Lit.int .u8 hh).wf = true) (w2 : (Lit.int .u8 mm).wf = true) (w : World) (hT : TabOK w) : Calls Tryd.prog 4 #[.int .u32 n, .int .u8 hh, .int .u8 mm, .bool west] w fun e w' => e = .returned (.bool true) ∧ Below w.heap.size w w' := by
  obtain ⟨a0, a1⟩ : 0 ≤ n ∧ n ≤ 4294967295 := by
    simp [Lit.wf, IntKind.min, IntKind.max, IntKind.signed, IntKind.bits] at w0; omega
  obtain ⟨b0, b1⟩ : 0 ≤ hh ∧ hh ≤ 255 := by
    simp [Lit.wf, IntKind.min, IntKind.max, IntKind.signed, IntKind.bits] at w1; omega
  obtain ⟨c0, c1⟩ : 0 ≤ mm ∧ mm ≤ 255 := by
    simp [Lit.wf, IntKind.min, IntKind.max, IntKind.signed, IntKind.bits] at w2; omega
  clear w0 w1 w2
  have hW := Below.refl w.heap.size w
  cases west
  · obtain ⟨z1, hr⟩ := zones_told (n + 100000) (hh % 24) (mm % 60) 43 (.inl rfl) (by omega) (by omega) (by omega) (by omega) (by omega) (by omega) (n + 100000 + (3600 * (hh % 24) + 60 * (mm % 60))) (by rw [if_neg (by decide)]; omega) (by omega) (by omega)
    have H1 : Hid (StrIs 13 (n + 100000 + (3600 * (hh % 24) + 60 * (mm % 60))) (imapS (n + 100000 + (3600 * (hh % 24) + 60 * (mm % 60))))) := fun w hT => Imap_any _ w (by omega) (by omega) hT
    have H2 : Hid (ReadIs ((imapS (n + 100000 + (3600 * (hh % 24) + 60 * (mm % 60)))).extract 0 21 ++ ⟨#[43]⟩ ++ strOfNums (twoL (hh % 24)) ++ strOfNums (twoL (mm % 60))) (n + 100000, 0)) := fun w => by
      rw [← hr]
      refine readImap_any _ w ?_
      rw [ByteArray.size_append, ByteArray.size_append, ByteArray.size_append, ByteArray.size_extract, strOfNums_size, strOfNums_size, z1]
      have e3 : (⟨#[43]⟩ : ByteArray).size = 1 := rfl
      have e1 : (twoL (hh % 24)).length = 2 := rfl
      have e2 : (twoL (mm % 60)).length = 2 := rfl
      omega
    have TA : Hid (TwoIs (hh % 24) (strOfNums (twoL (hh % 24)))) := fun w => two6_any _ w (by omega) (by omega)
    have TB : Hid (TwoIs (mm % 60) (strOfNums (twoL (mm % 60)))) := fun w => two6_any _ w (by omega) (by omega)
    have z2 : (strOfNums (twoL (hh % 24))).size = 2 := by rw [strOfNums_size]; rfl
    have z3 : (strOfNums (twoL (mm % 60))).size = 2 := by rw [strOfNums_size]; rfl
    clear hr
    generalize strOfNums (twoL (hh % 24)) = A at *
    generalize strOfNums (twoL (mm % 60)) = B at *
    generalize imapS (n + 100000 + (3600 * (hh % 24) + 60 * (mm % 60))) = T at *
    go_enter Tryd.func4, Tryd.ntmps4
    go_wp2_with fail
    refine (H1.out.at_ (hT.below hW)).mono ?_; rintro e w1 ⟨rfl, hw1⟩; (first | replace hW := nextB hW hw1 | replace hW := nextA hW hw1 | replace hW := nextB hW.drew hw1 | replace hW := nextAA hW hw1 | replace hW := nextAD hW hw1); clear hw1
    go_wp2_with fail
    go_region_held3 (fun _ => True) (trivial) (first | (go_at_call 15; (with_reducible first | refine (TA.out.at_ _).mono ?_ | refine (TB.out.at_ _).mono ?_); rintro e w1 ⟨rfl, hw1⟩; (first | replace hW := nextB hW hw1 | replace hW := nextA hW hw1 | replace hW := nextB hW.drew hw1 | replace hW := nextAA hW hw1 | replace hW := nextAD hW hw1); clear hw1) | (go_at_call 14; with_reducible refine (H2.out.at_ _).mono ?_; rintro e w1 ⟨rfl, hw1⟩; (first | replace hW := nextB hW hw1 | replace hW := nextA hW hw1 | replace hW := nextB hW.drew hw1 | replace hW := nextAA hW hw1 | replace hW := nextAD hW hw1); clear hw1))
    all_goals
      go_wp2_with fail
      refine (num_any _ _).mono ?_; rintro e w1 ⟨rfl, hw⟩; obtain rfl : _ = w1 := hw
      go_wp2_with fail
      refine (awake_any _ (hT.below hW)).mono ?_; rintro e w1 ⟨rfl, hw1⟩; (first | replace hW := nextB hW hw1 | replace hW := nextA hW hw1 | replace hW := nextB hW.drew hw1 | replace hW := nextAA hW hw1 | replace hW := nextAD hW hw1); clear hw1
      go_wp2_with fail
      go_ret
      exact ⟨rfl, hW⟩
  · obtain ⟨z1, hr⟩ := zones_told (n + 100000) (hh % 24) (mm % 60) 45 (.inr rfl) (by omega) (by omega) (by omega) (by omega) (by omega) (by omega) (n + 100000 + -(3600 * (hh % 24) + 60 * (mm % 60))) (by rw [if_pos (by decide)]; omega) (by omega) (by omega)
    have H1 : Hid (StrIs 13 (n + 100000 + -(3600 * (hh % 24) + 60 * (mm % 60))) (imapS (n + 100000 + -(3600 * (hh % 24) + 60 * (mm % 60))))) := fun w hT => Imap_any _ w (by omega) (by omega) hT
    have H2 : Hid (ReadIs ((imapS (n + 100000 + -(3600 * (hh % 24) + 60 * (mm % 60)))).extract 0 21 ++ ⟨#[45]⟩ ++ strOfNums (twoL (hh % 24)) ++ strOfNums (twoL (mm % 60))) (n + 100000, 0)) := fun w => by
      rw [← hr]
      refine readImap_any _ w ?_
      rw [ByteArray.size_append, ByteArray.size_append, ByteArray.size_append, ByteArray.size_extract, strOfNums_size, strOfNums_size, z1]
      have e3 : (⟨#[45]⟩ : ByteArray).size = 1 := rfl
      have e1 : (twoL (hh % 24)).length = 2 := rfl
      have e2 : (twoL (mm % 60)).length = 2 := rfl
      omega
    have TA : Hid (TwoIs (hh % 24) (strOfNums (twoL (hh % 24)))) := fun w => two6_any _ w (by omega) (by omega)
    have TB : Hid (TwoIs (mm % 60) (strOfNums (twoL (mm % 60)))) := fun w => two6_any _ w (by omega) (by omega)
    have z2 : (strOfNums (twoL (hh % 24))).size = 2 := by rw [strOfNums_size]; rfl
    have z3 : (strOfNums (twoL (mm % 60))).size = 2 := by rw [strOfNums_size]; rfl
    clear hr
    generalize strOfNums (twoL (hh % 24)) = A at *
    generalize strOfNums (twoL (mm % 60)) = B at *
    generalize imapS (n + 100000 + -(3600 * (hh % 24) + 60 * (mm % 60))) = T at *
    go_enter Tryd.func4, Tryd.ntmps4
    go_wp2_with fail
    refine (H1.out.at_ (hT.below hW)).mono ?_; rintro e w1 ⟨rfl, hw1⟩; (first | replace hW := nextB hW hw1 | replace hW := nextA hW hw1 | replace hW := nextB hW.drew hw1 | replace hW := nextAA hW hw1 | replace hW := nextAD hW hw1); clear hw1
    go_wp2_with fail
    go_region_held3 (fun _ => True) (trivial) (first | (go_at_call 15; (with_reducible first | refine (TA.out.at_ _).mono ?_ | refine (TB.out.at_ _).mono ?_); rintro e w1 ⟨rfl, hw1⟩; (first | replace hW := nextB hW hw1 | replace hW := nextA hW hw1 | replace hW := nextB hW.drew hw1 | replace hW := nextAA hW hw1 | replace hW := nextAD hW hw1); clear hw1) | (go_at_call 14; with_reducible refine (H2.out.at_ _).mono ?_; rintro e w1 ⟨rfl, hw1⟩; (first | replace hW := nextB hW hw1 | replace hW := nextA hW hw1 | replace hW := nextB hW.drew hw1 | replace hW := nextAA hW hw1 | replace hW := nextAD hW hw1); clear hw1))
    all_goals
      go_wp2_with fail
      refine (num_any _ _).mono ?_; rintro e w1 ⟨rfl, hw⟩; obtain rfl : _ = w1 := hw
      go_wp2_with fail
      refine (awake_any _ (hT.below hW)).mono ?_; rintro e w1 ⟨rfl, hw1⟩; (first | replace hW := nextB hW hw1 | replace hW := nextA hW hw1 | replace hW := nextB hW.drew hw1 | replace hW := nextAA hW hw1 | replace hW := nextAD hW hw1); clear hw1
      go_wp2_with fail
      go_ret
      exact ⟨rfl, hW⟩
end Go.Proofs.YtfhdnppcookcoaaDoor
