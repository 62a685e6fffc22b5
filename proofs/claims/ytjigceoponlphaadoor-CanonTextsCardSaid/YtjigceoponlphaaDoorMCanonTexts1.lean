/- Texts of one seat, one behind the other: Cback, Ctexts. No condition. -/
import Derived.Test.YtjigceoponlphaaDoorQ7
/-! CanonBack: its walk. -/
namespace Go.Proofs.YtjigceoponlphaaDoor
open Go.RowKit Go.PlainAid
set_option linter.unusedVariables false
set_option linter.unusedSimpArgs false
theorem sameK_eq : ∀ (ks ms : List ByteArray), ks.length = ms.length → sameK ks ms = true → ks = ms
  | [], [], _, _ => rfl
  | [], _ :: _, h, _ => by simp at h
  | _ :: _, [], h, _ => by simp at h
  | a :: ks, b :: ms, h, hs => by
    unfold sameK at hs
    rw [Bool.and_eq_true, beq_iff_eq] at hs
    rw [ba_ext' hs.1, sameK_eq ks ms (by simpa using h) hs.2]
mutual
theorem sameN_eq : ∀ (n m : Nd), sameN n m = true → n = m
  | .mk k i t ks ns, .mk k' i' t' ks' ns', h => by
    unfold sameN at h
    simp only [Bool.and_eq_true, beq_iff_eq] at h
    obtain ⟨⟨⟨⟨⟨⟨h1, h2⟩, h3⟩, h4⟩, h5⟩, h6⟩, h7⟩ := h
    rw [h1, h2, ba_ext' h3, sameK_eq ks ks' h4 h6, sameL_eq ns ns' h5 h7]
theorem sameL_eq : ∀ (ns ms : List Nd), ns.length = ms.length → sameL ns ms = true → ns = ms
  | [], [], _, _ => rfl
  | [], _ :: _, h, _ => by simp at h
  | _ :: _, [], h, _ => by simp at h
  | n :: ns, m :: ms, h, hs => by
    unfold sameL at hs
    rw [Bool.and_eq_true] at hs
    rw [sameN_eq n m hs.1, sameL_eq ns ms (by simpa using h) hs.2]
end
/-- what a right value prints as -/
theorem prints_right {n : Nd} (h : rightD n 0 = true) : (65536 < (putU n).length ∧ printE n = 2) ∨ (¬ 65536 < (putU n).length ∧ printS n = ⟨(putU n).toArray⟩ ∧ printE n = 0) := by
  rw [printS_eq, printE_eq, h]
  by_cases hl : 65536 < (putU n).length
  · left
    rw [if_neg (by simp), if_pos hl]
    exact ⟨hl, rfl⟩
  · right
    rw [if_neg (by simp), if_neg hl, if_neg (by simp), if_neg hl]
    exact ⟨hl, rfl, rfl⟩
/-- two right values have one text just where they are one -/
theorem texts_one {n m : Nd} (hn : rightD n 0 = true) (hm : rightD m 0 = true) (ln : ¬ 65536 < (putU n).length) (lm : ¬ 65536 < (putU m).length) : ((⟨(putU n).toArray⟩ : ByteArray).toList == (⟨(putU m).toArray⟩ : ByteArray).toList) = sameN n m := by
  rw [lit_toList, lit_toList, Bool.eq_iff_iff, beq_iff_eq]
  constructor
  · intro e
    have h1 := parse_put n hn (by omega)
    have h2 := parse_put m hm (by omega)
    rw [e, h2] at h1
    injection h1 with h1
    rw [h1]
    exact sameN_refl n
  · intro e
    rw [sameN_eq n m e]
set_option maxRecDepth 100000 in
set_option maxHeartbeats 3000000 in
theorem canonBack_walk (a b : Nd) (cs ds : List Value) (W : World) (ha : NdIs W W.heap.size a cs) (hb : NdIs W W.heap.size b ds) (hT : TabOK W) :
    Calls Tryd.prog 3 #[.agg cs.toArray, .agg ds.toArray] W fun e W' => e = .returned (.bool true) ∧ Below W.heap.size W W' := by
  have hla := ha.len
  have hlb := hb.len
  match cs, hla, ds, hlb with
  | [v0, v1, v2, v3, v4], _, [u0, u1, u2, u3, u4], _ =>
  obtain ⟨x0, x1, x2, x3, x4, x5, x6, x7, x8, rfl, rfl, rfl, rfl, rfl⟩ := ha.form
  obtain ⟨y0, y1, y2, y3, y4, y5, y6, y7, y8, rfl, rfl, rfl, rfl, rfl⟩ := hb.form
  show Calls Tryd.prog 3 #[.agg #[.int .i64 x0, .int .i64 x1, .string x2, .slice x3 x4 x5, .slice x6 x7 x8], .agg #[.int .i64 y0, .int .i64 y1, .string y2, .slice y3 y4 y5, .slice y6 y7 y8]] W _
  have HA : Hid (∀ w', Below W.heap.size W w' → NdIs w' W.heap.size a [.int .i64 x0, .int .i64 x1, .string x2, .slice x3 x4 x5, .slice x6 x7 x8]) := fun w' h => ha.below h
  have HB : Hid (∀ w', Below W.heap.size W w' → NdIs w' W.heap.size b [.int .i64 y0, .int .i64 y1, .string y2, .slice y3 y4 y5, .slice y6 y7 y8]) := fun w' h => hb.below h
  have HGA : Hid (∀ w', Below W.heap.size W w' → Calls Tryd.prog 5 #[.agg #[.int .i64 x0, .int .i64 x1, .string x2, .slice x3 x4 x5, .slice x6 x7 x8]] w' (BoolBel (greatN a) w')) := fun w' h => great_any a _ w' W.heap.size (HA.out w' h) h.size
  have HGB : Hid (∀ w', Below W.heap.size W w' → Calls Tryd.prog 5 #[.agg #[.int .i64 y0, .int .i64 y1, .string y2, .slice y3 y4 y5, .slice y6 y7 y8]] w' (BoolBel (greatN b) w')) := fun w' h => great_any b _ w' W.heap.size (HB.out w' h) h.size
  have HRA : Hid (∀ w', Below W.heap.size W w' → Calls Tryd.prog 6 #[.agg #[.int .i64 x0, .int .i64 x1, .string x2, .slice x3 x4 x5, .slice x6 x7 x8]] w' (BoolBel (rightD a 0) w')) := fun w' h => rRight_any a _ w' W.heap.size (HA.out w' h) h.size
  have HRB : Hid (∀ w', Below W.heap.size W w' → Calls Tryd.prog 6 #[.agg #[.int .i64 y0, .int .i64 y1, .string y2, .slice y3 y4 y5, .slice y6 y7 y8]] w' (BoolBel (rightD b 0) w')) := fun w' h => rRight_any b _ w' W.heap.size (HB.out w' h) h.size
  have HW : Hid (∀ w', Below W.heap.size W w' → Calls Tryd.prog 7 #[] w' (BoolBel true w')) := fun w' h => awake8_any w' (hT.below h)
  have s0 : SS W (.int .i64 x0) (.int .i64 x1) (.string x2) (.slice x3 x4 x5) (.slice x6 x7 x8) (.int .i64 y0) (.int .i64 y1) (.string y2) (.slice y3 y4 y5) (.slice y6 y7 y8) ((W.alloc (.cells #[.int .i64 x0, .int .i64 x1, .string x2, .slice x3 x4 x5, .slice x6 x7 x8] 25)).alloc (.cells #[.int .i64 y0, .int .i64 y1, .string y2, .slice y3 y4 y5, .slice y6 y7 y8] 25)) := ss_new W _ _ _ _ _ _ _ _ _ _
  have hTab : Hid (∀ w', Below W.heap.size W w' → TabAt W.heap.size w') := fun w' h => ⟨W, hT, Nat.le_refl _, h⟩
  have HNA : Hid (greatN a = false → sizeOk a ∧ gN a ≤ 60000000) := fun h => not_great ha h
  have HNB : Hid (greatN b = false → sizeOk b ∧ gN b ≤ 60000000) := fun h => not_great hb h
  clear ha hb hT
  cases hga : greatN a with
  | true =>
    rw [hga] at HGA
    go_enter Tryd.func3, Tryd.ntmps3
    obtain ⟨⟨c0, c1, c2, c3, c4⟩, ⟨d0, d1, d2, d3, d4⟩, _, _⟩ := id s0
    go_wp2_with fail
    refine (HGA.out _ s0.2.2.2).mono ?_; rintro e w1 ⟨rfl, hw⟩
    have s1 := ss_below s0 hw
    clear hw c0 c1 c2 c3 c4 d0 d1 d2 d3 d4 s0
    obtain ⟨⟨c0, c1, c2, c3, c4⟩, ⟨d0, d1, d2, d3, d4⟩, _, _⟩ := id s1
    go_wp2_with fail
    refine (HW.out _ s1.2.2.2).mono ?_; rintro e w9 ⟨rfl, hw⟩
    have hB := (ss_below s1 hw).2.2.2
    clear hw c0 c1 c2 c3 c4 d0 d1 d2 d3 d4
    go_wp2_with fail
    go_ret
    exact ⟨rfl, hB⟩
  | false =>
  cases hgb : greatN b with
  | true =>
    rw [hga] at HGA
    rw [hgb] at HGB
    go_enter Tryd.func3, Tryd.ntmps3
    obtain ⟨⟨c0, c1, c2, c3, c4⟩, ⟨d0, d1, d2, d3, d4⟩, _, _⟩ := id s0
    go_wp2_with fail
    refine (HGA.out _ s0.2.2.2).mono ?_; rintro e w1 ⟨rfl, hw⟩
    have s1 := ss_below s0 hw
    clear hw c0 c1 c2 c3 c4 d0 d1 d2 d3 d4 s0
    obtain ⟨⟨c0, c1, c2, c3, c4⟩, ⟨d0, d1, d2, d3, d4⟩, _, _⟩ := id s1
    go_wp2_with fail
    refine (HGB.out _ s1.2.2.2).mono ?_; rintro e w2 ⟨rfl, hw⟩
    have s2 := ss_below s1 hw
    clear hw c0 c1 c2 c3 c4 d0 d1 d2 d3 d4 s1
    obtain ⟨⟨c0, c1, c2, c3, c4⟩, ⟨d0, d1, d2, d3, d4⟩, _, _⟩ := id s2
    go_wp2_with fail
    refine (HW.out _ s2.2.2.2).mono ?_; rintro e w9 ⟨rfl, hw⟩
    have hB := (ss_below s2 hw).2.2.2
    clear hw c0 c1 c2 c3 c4 d0 d1 d2 d3 d4
    go_wp2_with fail
    go_ret
    exact ⟨rfl, hB⟩
  | false =>
  cases hra : rightD a 0 with
  | false =>
    rw [hga] at HGA
    rw [hgb] at HGB
    rw [hra] at HRA
    go_enter Tryd.func3, Tryd.ntmps3
    obtain ⟨⟨c0, c1, c2, c3, c4⟩, ⟨d0, d1, d2, d3, d4⟩, _, _⟩ := id s0
    go_wp2_with fail
    refine (HGA.out _ s0.2.2.2).mono ?_; rintro e w1 ⟨rfl, hw⟩
    have s1 := ss_below s0 hw
    clear hw c0 c1 c2 c3 c4 d0 d1 d2 d3 d4 s0
    obtain ⟨⟨c0, c1, c2, c3, c4⟩, ⟨d0, d1, d2, d3, d4⟩, _, _⟩ := id s1
    go_wp2_with fail
    refine (HGB.out _ s1.2.2.2).mono ?_; rintro e w2 ⟨rfl, hw⟩
    have s2 := ss_below s1 hw
    clear hw c0 c1 c2 c3 c4 d0 d1 d2 d3 d4 s1
    obtain ⟨⟨c0, c1, c2, c3, c4⟩, ⟨d0, d1, d2, d3, d4⟩, _, _⟩ := id s2
    go_wp2_with fail
    refine (HRA.out _ s2.2.2.2).mono ?_; rintro e w3 ⟨rfl, hw⟩
    have s3 := ss_below s2 hw
    clear hw c0 c1 c2 c3 c4 d0 d1 d2 d3 d4 s2
    obtain ⟨⟨c0, c1, c2, c3, c4⟩, ⟨d0, d1, d2, d3, d4⟩, _, _⟩ := id s3
    go_wp2_with fail
    refine (HW.out _ s3.2.2.2).mono ?_; rintro e w9 ⟨rfl, hw⟩
    have hB := (ss_below s3 hw).2.2.2
    clear hw c0 c1 c2 c3 c4 d0 d1 d2 d3 d4
    go_wp2_with fail
    go_ret
    exact ⟨rfl, hB⟩
  | true =>
  cases hrb : rightD b 0 with
  | false =>
    rw [hga] at HGA
    rw [hgb] at HGB
    rw [hra] at HRA
    rw [hrb] at HRB
    go_enter Tryd.func3, Tryd.ntmps3
    obtain ⟨⟨c0, c1, c2, c3, c4⟩, ⟨d0, d1, d2, d3, d4⟩, _, _⟩ := id s0
    go_wp2_with fail
    refine (HGA.out _ s0.2.2.2).mono ?_; rintro e w1 ⟨rfl, hw⟩
    have s1 := ss_below s0 hw
    clear hw c0 c1 c2 c3 c4 d0 d1 d2 d3 d4 s0
    obtain ⟨⟨c0, c1, c2, c3, c4⟩, ⟨d0, d1, d2, d3, d4⟩, _, _⟩ := id s1
    go_wp2_with fail
    refine (HGB.out _ s1.2.2.2).mono ?_; rintro e w2 ⟨rfl, hw⟩
    have s2 := ss_below s1 hw
    clear hw c0 c1 c2 c3 c4 d0 d1 d2 d3 d4 s1
    obtain ⟨⟨c0, c1, c2, c3, c4⟩, ⟨d0, d1, d2, d3, d4⟩, _, _⟩ := id s2
    go_wp2_with fail
    refine (HRA.out _ s2.2.2.2).mono ?_; rintro e w3 ⟨rfl, hw⟩
    have s3 := ss_below s2 hw
    clear hw c0 c1 c2 c3 c4 d0 d1 d2 d3 d4 s2
    obtain ⟨⟨c0, c1, c2, c3, c4⟩, ⟨d0, d1, d2, d3, d4⟩, _, _⟩ := id s3
    go_wp2_with fail
    refine (HRB.out _ s3.2.2.2).mono ?_; rintro e w4 ⟨rfl, hw⟩
    have s4 := ss_below s3 hw
    clear hw c0 c1 c2 c3 c4 d0 d1 d2 d3 d4 s3
    obtain ⟨⟨c0, c1, c2, c3, c4⟩, ⟨d0, d1, d2, d3, d4⟩, _, _⟩ := id s4
    go_wp2_with fail
    refine (HW.out _ s4.2.2.2).mono ?_; rintro e w9 ⟨rfl, hw⟩
    have hB := (ss_below s4 hw).2.2.2
    clear hw c0 c1 c2 c3 c4 d0 d1 d2 d3 d4
    go_wp2_with fail
    go_ret
    exact ⟨rfl, hB⟩
  | true =>
  have hza := HNA.out hga
  have hzb := HNB.out hgb
  have HPA : Hid (∀ w', Below W.heap.size W w' → Calls Tryd.prog 8 #[.agg #[.int .i64 x0, .int .i64 x1, .string x2, .slice x3 x4 x5, .slice x6 x7 x8]] w' (StrErr (printS a) (printE a) w')) := fun w' h =>
    CPrint_any a _ w' W.heap.size (HA.out w' h) h.size (hTab.out w' h) (fun hr => good_of a 0 hza.1 hr) (by have := hza.2; omega)
  have HPB : Hid (∀ w', Below W.heap.size W w' → Calls Tryd.prog 8 #[.agg #[.int .i64 y0, .int .i64 y1, .string y2, .slice y3 y4 y5, .slice y6 y7 y8]] w' (StrErr (printS b) (printE b) w')) := fun w' h =>
    CPrint_any b _ w' W.heap.size (HB.out w' h) h.size (hTab.out w' h) (fun hr => good_of b 0 hzb.1 hr) (by have := hzb.2; omega)
  rw [hga] at HGA
  rw [hgb] at HGB
  rw [hra] at HRA
  rw [hrb] at HRB
  clear hza hzb HNA HNB hga hgb hTab
  rcases prints_right hra with ⟨_, ea⟩ | ⟨la, sa, ea⟩
  · rw [ea] at HPA
    generalize printS a = SA at *
    generalize printS b = SB at *
    generalize printE b = EB at *
    clear hra hrb ea HA HB
    go_enter Tryd.func3, Tryd.ntmps3
    obtain ⟨⟨c0, c1, c2, c3, c4⟩, ⟨d0, d1, d2, d3, d4⟩, _, _⟩ := id s0
    go_wp2_with fail
    refine (HGA.out _ s0.2.2.2).mono ?_; rintro e w1 ⟨rfl, hw⟩
    have s1 := ss_below s0 hw
    clear hw c0 c1 c2 c3 c4 d0 d1 d2 d3 d4 s0
    obtain ⟨⟨c0, c1, c2, c3, c4⟩, ⟨d0, d1, d2, d3, d4⟩, _, _⟩ := id s1
    go_wp2_with fail
    refine (HGB.out _ s1.2.2.2).mono ?_; rintro e w2 ⟨rfl, hw⟩
    have s2 := ss_below s1 hw
    clear hw c0 c1 c2 c3 c4 d0 d1 d2 d3 d4 s1
    obtain ⟨⟨c0, c1, c2, c3, c4⟩, ⟨d0, d1, d2, d3, d4⟩, _, _⟩ := id s2
    go_wp2_with fail
    refine (HRA.out _ s2.2.2.2).mono ?_; rintro e w3 ⟨rfl, hw⟩
    have s3 := ss_below s2 hw
    clear hw c0 c1 c2 c3 c4 d0 d1 d2 d3 d4 s2
    obtain ⟨⟨c0, c1, c2, c3, c4⟩, ⟨d0, d1, d2, d3, d4⟩, _, _⟩ := id s3
    go_wp2_with fail
    refine (HRB.out _ s3.2.2.2).mono ?_; rintro e w4 ⟨rfl, hw⟩
    have s4 := ss_below s3 hw
    clear hw c0 c1 c2 c3 c4 d0 d1 d2 d3 d4 s3
    obtain ⟨⟨c0, c1, c2, c3, c4⟩, ⟨d0, d1, d2, d3, d4⟩, _, _⟩ := id s4
    go_wp2_with fail
    refine (HPA.out _ s4.2.2.2).mono ?_; rintro e w5 ⟨rfl, hw⟩
    have s5 := ss_below s4 hw
    clear hw c0 c1 c2 c3 c4 d0 d1 d2 d3 d4 s4
    obtain ⟨⟨c0, c1, c2, c3, c4⟩, ⟨d0, d1, d2, d3, d4⟩, _, _⟩ := id s5
    go_wp2_with fail
    refine (HPB.out _ s5.2.2.2).mono ?_; rintro e w6 ⟨rfl, hw⟩
    have s6 := ss_below s5 hw
    clear hw c0 c1 c2 c3 c4 d0 d1 d2 d3 d4 s5
    obtain ⟨⟨c0, c1, c2, c3, c4⟩, ⟨d0, d1, d2, d3, d4⟩, _, _⟩ := id s6
    go_wp2_with fail
    refine (num3_any _ _).mono ?_; rintro e w9 ⟨rfl, hw⟩; obtain rfl : _ = w9 := hw
    go_wp2_with fail
    refine (num3_any _ _).mono ?_; rintro e w9 ⟨rfl, hw⟩; obtain rfl : _ = w9 := hw
    go_wp2_with fail
    refine (HW.out _ s6.2.2.2).mono ?_; rintro e w9 ⟨rfl, hw⟩
    have hB := (ss_below s6 hw).2.2.2
    clear hw c0 c1 c2 c3 c4 d0 d1 d2 d3 d4
    go_wp2_with fail
    go_ret
    exact ⟨rfl, hB⟩
  rcases prints_right hrb with ⟨_, eb⟩ | ⟨lb, sb, eb⟩
  · rw [ea] at HPA
    rw [eb] at HPB
    generalize printS a = SA at *
    generalize printS b = SB at *
    clear hra hrb ea eb HA HB sa
    go_enter Tryd.func3, Tryd.ntmps3
    obtain ⟨⟨c0, c1, c2, c3, c4⟩, ⟨d0, d1, d2, d3, d4⟩, _, _⟩ := id s0
    go_wp2_with fail
    refine (HGA.out _ s0.2.2.2).mono ?_; rintro e w1 ⟨rfl, hw⟩
    have s1 := ss_below s0 hw
    clear hw c0 c1 c2 c3 c4 d0 d1 d2 d3 d4 s0
    obtain ⟨⟨c0, c1, c2, c3, c4⟩, ⟨d0, d1, d2, d3, d4⟩, _, _⟩ := id s1
    go_wp2_with fail
    refine (HGB.out _ s1.2.2.2).mono ?_; rintro e w2 ⟨rfl, hw⟩
    have s2 := ss_below s1 hw
    clear hw c0 c1 c2 c3 c4 d0 d1 d2 d3 d4 s1
    obtain ⟨⟨c0, c1, c2, c3, c4⟩, ⟨d0, d1, d2, d3, d4⟩, _, _⟩ := id s2
    go_wp2_with fail
    refine (HRA.out _ s2.2.2.2).mono ?_; rintro e w3 ⟨rfl, hw⟩
    have s3 := ss_below s2 hw
    clear hw c0 c1 c2 c3 c4 d0 d1 d2 d3 d4 s2
    obtain ⟨⟨c0, c1, c2, c3, c4⟩, ⟨d0, d1, d2, d3, d4⟩, _, _⟩ := id s3
    go_wp2_with fail
    refine (HRB.out _ s3.2.2.2).mono ?_; rintro e w4 ⟨rfl, hw⟩
    have s4 := ss_below s3 hw
    clear hw c0 c1 c2 c3 c4 d0 d1 d2 d3 d4 s3
    obtain ⟨⟨c0, c1, c2, c3, c4⟩, ⟨d0, d1, d2, d3, d4⟩, _, _⟩ := id s4
    go_wp2_with fail
    refine (HPA.out _ s4.2.2.2).mono ?_; rintro e w5 ⟨rfl, hw⟩
    have s5 := ss_below s4 hw
    clear hw c0 c1 c2 c3 c4 d0 d1 d2 d3 d4 s4
    obtain ⟨⟨c0, c1, c2, c3, c4⟩, ⟨d0, d1, d2, d3, d4⟩, _, _⟩ := id s5
    go_wp2_with fail
    refine (HPB.out _ s5.2.2.2).mono ?_; rintro e w6 ⟨rfl, hw⟩
    have s6 := ss_below s5 hw
    clear hw c0 c1 c2 c3 c4 d0 d1 d2 d3 d4 s5
    obtain ⟨⟨c0, c1, c2, c3, c4⟩, ⟨d0, d1, d2, d3, d4⟩, _, _⟩ := id s6
    go_wp2_with fail
    refine (num3_any _ _).mono ?_; rintro e w9 ⟨rfl, hw⟩; obtain rfl : _ = w9 := hw
    go_wp2_with fail
    refine (num3_any _ _).mono ?_; rintro e w9 ⟨rfl, hw⟩; obtain rfl : _ = w9 := hw
    go_wp2_with fail
    refine (num3_any _ _).mono ?_; rintro e w9 ⟨rfl, hw⟩; obtain rfl : _ = w9 := hw
    go_wp2_with fail
    refine (num3_any _ _).mono ?_; rintro e w9 ⟨rfl, hw⟩; obtain rfl : _ = w9 := hw
    go_wp2_with fail
    refine (HW.out _ s6.2.2.2).mono ?_; rintro e w9 ⟨rfl, hw⟩
    have hB := (ss_below s6 hw).2.2.2
    clear hw c0 c1 c2 c3 c4 d0 d1 d2 d3 d4
    go_wp2_with fail
    go_ret
    exact ⟨rfl, hB⟩
  rw [ea, sa] at HPA
  rw [eb, sb] at HPB
  have hcmp := texts_one hra hrb la lb
  have hpp := parse_put a hra (by omega)
  have hsz : (⟨(putU a).toArray⟩ : ByteArray).toList = putU a := lit_toList _
  have HP : Hid (∀ w' A c, BytesAt w' A c ⟨(putU a).toArray⟩ → Calls Tryd.prog 10 #[.slice A (⟨(putU a).toArray⟩ : ByteArray).size c] w' (PEnd (.ok a) w')) := fun w' A c hb => by
    have := parse_law ⟨(putU a).toArray⟩ A c w' hb
    rw [hsz, hpp] at this
    exact this
  generalize (⟨(putU a).toArray⟩ : ByteArray) = SA at *
  generalize (⟨(putU b).toArray⟩ : ByteArray) = SB at *
  clear hra hrb ea eb sa sb la lb hpp hsz
  have HSA : Hid (∀ w' (cs : List Value), NdIs w' w'.heap.size a cs → Below W.heap.size W w' → Calls Tryd.prog 11 #[.agg cs.toArray, .agg #[.int .i64 x0, .int .i64 x1, .string x2, .slice x3 x4 x5, .slice x6 x7 x8]] w' (BoolBel true w')) := fun w' cs h hb => by
    have := rSame_any a.count a a cs [.int .i64 x0, .int .i64 x1, .string x2, .slice x3 x4 x5, .slice x6 x7 x8] w' w'.heap.size (Nat.le_refl _) h (NdIs.more hb.size _ _ (HA.out w' hb)) (Nat.le_refl _)
    rw [sameN_refl] at this
    exact this
  have HSB : Hid (∀ w', Below W.heap.size W w' → Calls Tryd.prog 11 #[.agg #[.int .i64 x0, .int .i64 x1, .string x2, .slice x3 x4 x5, .slice x6 x7 x8], .agg #[.int .i64 y0, .int .i64 y1, .string y2, .slice y3 y4 y5, .slice y6 y7 y8]] w' (BoolBel (sameN a b) w')) := fun w' hb =>
    rSame_any a.count a b _ _ w' W.heap.size (Nat.le_refl _) (HA.out w' hb) (HB.out w' hb) hb.size
  clear HA HB
  generalize sameN a b = M at *
  go_enter Tryd.func3, Tryd.ntmps3
  obtain ⟨⟨c0, c1, c2, c3, c4⟩, ⟨d0, d1, d2, d3, d4⟩, _, _⟩ := id s0
  go_wp2_with fail
  refine (HGA.out _ s0.2.2.2).mono ?_; rintro e w1 ⟨rfl, hw⟩
  have s1 := ss_below s0 hw
  clear hw c0 c1 c2 c3 c4 d0 d1 d2 d3 d4 s0
  obtain ⟨⟨c0, c1, c2, c3, c4⟩, ⟨d0, d1, d2, d3, d4⟩, _, _⟩ := id s1
  go_wp2_with fail
  refine (HGB.out _ s1.2.2.2).mono ?_; rintro e w2 ⟨rfl, hw⟩
  have s2 := ss_below s1 hw
  clear hw c0 c1 c2 c3 c4 d0 d1 d2 d3 d4 s1
  obtain ⟨⟨c0, c1, c2, c3, c4⟩, ⟨d0, d1, d2, d3, d4⟩, _, _⟩ := id s2
  go_wp2_with fail
  refine (HRA.out _ s2.2.2.2).mono ?_; rintro e w3 ⟨rfl, hw⟩
  have s3 := ss_below s2 hw
  clear hw c0 c1 c2 c3 c4 d0 d1 d2 d3 d4 s2
  obtain ⟨⟨c0, c1, c2, c3, c4⟩, ⟨d0, d1, d2, d3, d4⟩, _, _⟩ := id s3
  go_wp2_with fail
  refine (HRB.out _ s3.2.2.2).mono ?_; rintro e w4 ⟨rfl, hw⟩
  have s4 := ss_below s3 hw
  clear hw c0 c1 c2 c3 c4 d0 d1 d2 d3 d4 s3
  obtain ⟨⟨c0, c1, c2, c3, c4⟩, ⟨d0, d1, d2, d3, d4⟩, _, _⟩ := id s4
  go_wp2_with fail
  refine (HPA.out _ s4.2.2.2).mono ?_; rintro e w5 ⟨rfl, hw⟩
  have s5 := ss_below s4 hw
  clear hw c0 c1 c2 c3 c4 d0 d1 d2 d3 d4 s4
  obtain ⟨⟨c0, c1, c2, c3, c4⟩, ⟨d0, d1, d2, d3, d4⟩, _, _⟩ := id s5
  go_wp2_with fail
  refine (HPB.out _ s5.2.2.2).mono ?_; rintro e w6 ⟨rfl, hw⟩
  have s6 := ss_below s5 hw
  clear hw c0 c1 c2 c3 c4 d0 d1 d2 d3 d4 s5
  obtain ⟨⟨c0, c1, c2, c3, c4⟩, ⟨d0, d1, d2, d3, d4⟩, _, _⟩ := id s6
  go_wp2_with fail
  refine (num3_any _ _).mono ?_; rintro e w9 ⟨rfl, hw⟩; obtain rfl : _ = w9 := hw
  go_wp2_with fail
  refine (num3_any _ _).mono ?_; rintro e w9 ⟨rfl, hw⟩; obtain rfl : _ = w9 := hw
  go_wp2_with (with_reducible refine wpList_bytes_of _ rfl (.tmp 58) rfl _ rfl ?_; intro g cc w7 hg1 hg2 hrow hb4)
  have s7 := ss_below s6 hb4
  have HPC := HP.out w7 _ cc (BytesAt.of_row hg2 hrow)
  clear hg1 hg2 hrow hb4 HP s6 c0 c1 c2 c3 c4 d0 d1 d2 d3 d4
  refine (HPC : Calls _ _ _ _ _).mono ?_; rintro e w8 ⟨c0, c1, c2, c3, c4, c5, c6, c7, c8, rfl, hn, hw8⟩
  have hA : Below w8.heap.size w8 (w8.alloc (.cells #[.int .i64 c0, .int .i64 c1, .string c2, .slice c3 c4 c5, .slice c6 c7 c8] 25)) := (Below.refl _ _).alloc (Nat.le_refl _) _
  have s8 := ss_below (ss_below s7 hw8) hA
  have HM := Lib.hid (NdIs.more hA.size _ _ (hn.below hA))
  clear HPC hn hw8 hA s7
  obtain ⟨⟨e0, e1, e2, e3, e4⟩, ⟨d0, d1, d2, d3, d4⟩, _, _⟩ := id s8
  go_wp2_with fail
  refine (num3_any _ _).mono ?_; rintro e w9 ⟨rfl, hw⟩; obtain rfl : _ = w9 := hw
  go_wp2_with fail
  have HSC := HSA.out _ _ HM.out s8.2.2.2
  refine (HSC : Calls _ _ _ _ _).mono ?_; rintro e w9 ⟨rfl, hw⟩
  have s9 := ss_below s8 hw
  clear hw e0 e1 e2 e3 e4 d0 d1 d2 d3 d4 s8 HSC HM HSA
  obtain ⟨⟨e0, e1, e2, e3, e4⟩, ⟨d0, d1, d2, d3, d4⟩, _, _⟩ := id s9
  go_wp2_with fail
  refine (HSB.out _ s9.2.2.2).mono ?_; rintro e w10 ⟨rfl, hw⟩
  have s10 := ss_below s9 hw
  clear hw e0 e1 e2 e3 e4 d0 d1 d2 d3 d4 s9 HSB
  cases M <;> (
    go_wp2_with fail
    refine (HW.out _ s10.2.2.2).mono ?_; rintro e w11 ⟨rfl, hw⟩
    have hB := (ss_below s10 hw).2.2.2
    clear hw s10
    go_wp2_with fail
    go_ret
    exact ⟨rfl, hB⟩)
end Go.Proofs.YtjigceoponlphaaDoor
/-! CanonTexts: its walk. -/
namespace Go.Proofs.YtjigceoponlphaaDoor
open Go.RowKit Go.PlainAid
set_option linter.unusedVariables false
set_option linter.unusedSimpArgs false
theorem right_text1 (a : ByteArray) (deep : Int) : rightD (.mk 5 0 a [] []) deep = validB a.toList := by
  unfold rightD rightN bareF
  simp
def inArr (s : ByteArray) : Nd := .mk 6 0 ⟨#[]⟩ [] [.mk 5 0 s [] []]
theorem right_inArr (s : ByteArray) : rightD (inArr s) 0 = validB s.toList := by
  have h := right_text1 s (0 + 1)
  cases hv : validB s.toList with
  | true =>
    rw [hv] at h
    exact right_arr _ 0 (by omega) (by intro n hn; simp at hn; subst hn; exact h)
  | false =>
    rw [hv] at h
    unfold inArr rightD rightN
    have : rightL 9007199254740991 24 [.mk 5 0 s [] []] (0 + 1) = false := by
      rw [rightL_all]
      simp only [List.all_cons, List.all_nil, Bool.and_true]
      exact h
    rw [this]
    simp
theorem put_inArr (s : ByteArray) : putU (inArr s) = [91] ++ quoteU s.toList ++ [93] := by
  unfold inArr putU
  rw [if_neg (by omega), if_neg (by omega), if_neg (by omega), if_neg (by omega), if_neg (by omega), if_pos rfl]
  have h := putL_cons false [] (.mk 5 0 s [] []) [] []
  rw [List.append_nil] at h
  show [91] ++ putL false [] [.mk 5 0 s [] []] true ++ [93] = _
  rw [h]
  have e0 : putL false ([] : List ByteArray).tail [] false ++ [] = [] := by unfold putL; rfl
  have e1 : putU (.mk 5 0 s [] []) = quoteU s.toList := by
    unfold putU
    rw [if_neg (by omega), if_neg (by omega), if_neg (by omega), if_neg (by omega), if_pos rfl]
  rw [e0, e1]
  simp
theorem esc_high (c : UInt8) : ∀ d ∈ escU c, 32 ≤ d.toNat := by
  have hx : ∀ k, 32 ≤ (hexU (k % 16)).toNat := by
    intro k
    have : ∀ i : Fin 16, 32 ≤ (hexU i.val).toNat := by decide
    exact this ⟨k % 16, Nat.mod_lt _ (by omega)⟩
  intro d hd
  unfold escU at hd
  split at hd
  · rename_i h
    simp at hd
    rcases hd with rfl | rfl
    · decide
    · rcases h with rfl | rfl <;> decide
  split at hd
  · simp at hd; subst hd; assumption
  split at hd
  · simp at hd; rcases hd with rfl | rfl <;> decide
  split at hd
  · simp at hd; rcases hd with rfl | rfl <;> decide
  split at hd
  · simp at hd; rcases hd with rfl | rfl <;> decide
  split at hd
  · simp at hd; rcases hd with rfl | rfl <;> decide
  split at hd
  · simp at hd; rcases hd with rfl | rfl <;> decide
  · have h1 := hx (c.toNat / 16)
    have h2 := hx (c.toNat)
    have h3 : c.toNat / 16 % 16 = c.toNat / 16 := Nat.mod_eq_of_lt (by have := c.toNat_lt; omega)
    rw [h3] at h1
    simp only [List.mem_cons, List.not_mem_nil, or_false] at hd
    rcases hd with rfl | rfl | rfl | rfl | rfl | rfl
    · decide
    · decide
    · decide
    · decide
    · exact h1
    · exact h2
theorem inArr_high (s : ByteArray) : ∀ d ∈ putU (inArr s), 32 ≤ d.toNat := by
  intro d hd
  rw [put_inArr] at hd
  unfold quoteU at hd
  simp only [List.mem_append, List.mem_singleton, List.mem_flatMap, List.mem_cons, List.not_mem_nil, or_false] at hd
  rcases hd with (rfl | (rfl | ⟨c, _, h⟩) | rfl) | rfl
  · decide
  · decide
  · exact esc_high c d h
  · decide
  · decide
theorem inArr_is (s : ByteArray) (w : World) (hs : s.size ≤ 2000) : NdIs (w.alloc (.cells #[.int .i64 5, .int .i64 0, .string s, .slice none 0 0, .slice none 0 0] 25)) (w.heap.size + 1) (inArr s) [.int .i64 6, .int .i64 0, .string ⟨#[]⟩, .slice none 0 0, .slice (some ⟨w.heap.size, 0, none⟩) 1 1] := by
  unfold inArr NdIs
  refine ⟨none, 0, some ⟨w.heap.size, 0, none⟩, 1, [.int .i64 5, .int .i64 0, .string s, .slice none 0 0, .slice none 0 0], rfl, Reads.none_, ?_, ?_, by unfold I64; omega, by unfold I64; omega, by decide, by simp, by simp, by simp only [List.length_cons, List.length_nil, maxLen]; omega⟩
  · refine ⟨rfl, fun _ => ⟨_, rfl, by simp, fun j u hj => ?_⟩⟩
    have e : (⟨w.heap.size, 0, none⟩ : Addr).add j = ⟨w.heap.size, j, none⟩ := by unfold Addr.add; split <;> simp_all
    rw [e, (Blk.new w _ _).cell j]
    simpa using hj
  · unfold NdsIs
    refine ⟨[.int .i64 5, .int .i64 0, .string s, .slice none 0 0, .slice none 0 0], [], by simp, ?_, by unfold NdsIs; rfl⟩
    exact NdIn.is (S := fun _ => False) (fun b hb => hb.elim) _ _ (nd_plain 5 0 s (by unfold I64; omega) (by unfold I64; omega) (by omega))
set_option maxRecDepth 100000 in
set_option maxHeartbeats 3000000 in
theorem canonTexts_walk (s : ByteArray) (W : World) (hT : TabOK W) :
    Calls Tryd.prog 4 #[.string s] W fun e W' => e = .returned (.bool true) ∧ Below W.heap.size W W' := by
  have hW := Below.refl W.heap.size W
  have HW : Hid (∀ w', Below W.heap.size W w' → Calls Tryd.prog 7 #[] w' (BoolBel true w')) := fun w' h => awake8_any w' (hT.below h)
  by_cases hl : s.size ≤ 2000
  case neg =>
    have hli : (2000 : Int) < (s.size : Int) := by omega
    clear hT
    go_enter Tryd.func4, Tryd.ntmps4
    go_wp2_with fail
    refine (HW.out _ hW).mono ?_; rintro e w1 ⟨rfl, hw1⟩
    replace hW := nextB hW hw1
    clear hw1
    go_wp2_with fail
    go_ret
    exact ⟨rfl, hW⟩
  have hli : ¬ (2000 : Int) < (s.size : Int) := by omega
  have hA : Below W.heap.size W (W.alloc (.cells #[.int .i64 5, .int .i64 0, .string s, .slice none 0 0, .slice none 0 0] 25)) := hW.alloc (Nat.le_refl _) _
  have hq := quoteU_le s.toList
  rw [tl_len'] at hq
  have hlen : (putU (inArr s)).length ≤ 65536 := by rw [put_inArr]; simp only [List.length_append, List.length_cons, List.length_nil]; omega
  have HP : Hid (Calls Tryd.prog 8 #[.agg #[.int .i64 6, .int .i64 0, .string ⟨#[]⟩, .slice none 0 0, .slice (some ⟨W.heap.size, 0, none⟩) 1 1]] (W.alloc (.cells #[.int .i64 5, .int .i64 0, .string s, .slice none 0 0, .slice none 0 0] 25)) (StrErr (printS (inArr s)) (printE (inArr s)) (W.alloc (.cells #[.int .i64 5, .int .i64 0, .string s, .slice none 0 0, .slice none 0 0] 25)))) := by
    refine CPrint_any (inArr s) _ _ (W.heap.size + 1) (inArr_is s W hl) (by simp) ⟨W, hT, by omega, hA⟩ (fun _ => ?_) ?_
    · unfold inArr goodN goodL goodN goodL
      exact ⟨by omega, by omega, by decide, by simp, ⟨by omega, by omega, by omega, by simp, trivial⟩, trivial⟩
    · unfold inArr gN gL gN gL
      have e : (⟨#[]⟩ : ByteArray).size = 0 := rfl
      simp only [List.headD_nil, e]
      omega
  have HR : Hid (∀ w', Calls Tryd.prog 6 #[.agg #[.int .i64 5, .int .i64 0, .string s, .slice none 0 0, .slice none 0 0]] w' (BoolBel (validB s.toList) w')) := fun w' => by
    have := rRight_any (.mk 5 0 s [] []) _ w' w'.heap.size (NdIn.is (S := fun _ => False) (fun b hb => hb.elim) _ _ (nd_plain 5 0 s (by unfold I64; omega) (by unfold I64; omega) (by omega))) (Nat.le_refl _)
    rw [right_text1] at this
    exact this
  clear hT
  cases hv : validB s.toList with
  | false =>
    have hE : printE (inArr s) = 1 := by rw [printE_eq, right_inArr, hv, if_pos rfl]
    rw [hE] at HP
    rw [hv] at HR
    generalize printS (inArr s) = PS at *
    clear hE hv hq hlen
    go_enter Tryd.func4, Tryd.ntmps4
    go_wp2_with fail
    refine (HP.out : Calls _ _ _ _ _).mono ?_; rintro e w1 ⟨rfl, hw1⟩
    replace hW := nextB hA hw1
    clear hw1 HP hA
    go_wp2_with fail
    refine (HR.out _).mono ?_; rintro e w2 ⟨rfl, hw1⟩
    replace hW := nextB hW hw1
    clear hw1 HR
    go_wp2_with fail
    refine (num3_any _ _).mono ?_; rintro e w9 ⟨rfl, hw⟩; obtain rfl : _ = w9 := hw
    go_wp2_with fail
    refine (HW.out _ hW).mono ?_; rintro e w3 ⟨rfl, hw1⟩
    replace hW := nextB hW hw1
    clear hw1
    go_wp2_with fail
    go_ret
    exact ⟨rfl, hW⟩
  | true =>
    have hrt : rightD (inArr s) 0 = true := by rw [right_inArr, hv]
    have hS : printS (inArr s) = ⟨(putU (inArr s)).toArray⟩ := by rw [printS_eq, hrt, if_neg (by simp), if_neg (by omega)]
    have hE : printE (inArr s) = 0 := by rw [printE_eq, hrt, if_neg (by simp), if_neg (by omega)]
    rw [hE, hS] at HP
    rw [hv] at HR
    have hsz : (⟨(putU (inArr s)).toArray⟩ : ByteArray).toList = putU (inArr s) := lit_toList _
    have HPP : Hid (∀ w' A c, BytesAt w' A c ⟨(putU (inArr s)).toArray⟩ → Calls Tryd.prog 10 #[.slice A (⟨(putU (inArr s)).toArray⟩ : ByteArray).size c] w' (PEnd (.ok (inArr s)) w')) := fun w' A c hb => by
      have := parse_law ⟨(putU (inArr s)).toArray⟩ A c w' hb
      rw [hsz, parse_put _ hrt hlen] at this
      exact this
    have HHI : Hid (∀ i, i < (⟨(putU (inArr s)).toArray⟩ : ByteArray).size → 32 ≤ bt ⟨(putU (inArr s)).toArray⟩ i) := fun i hi => by
      obtain ⟨u, hu, hd⟩ := drop_cons ⟨(putU (inArr s)).toArray⟩ i hi
      have hm : u ∈ putU (inArr s) := by
        rw [← hsz]
        have : u ∈ (⟨(putU (inArr s)).toArray⟩ : ByteArray).toList.drop i := by rw [hd]; simp
        exact List.mem_of_mem_drop this
      have := inArr_high s u hm
      rw [hu]; omega
    have hpz : (⟨(putU (inArr s)).toArray⟩ : ByteArray).size ≤ 65536 := by rw [← tl_len', hsz]; exact hlen
    generalize (⟨(putU (inArr s)).toArray⟩ : ByteArray) = P at *
    clear hE hS hv hq hlen hrt hsz
    have hb := get_bt P
    go_enter Tryd.func4, Tryd.ntmps4
    go_wp2_with fail
    refine (HP.out : Calls _ _ _ _ _).mono ?_; rintro e w1 ⟨rfl, hw1⟩
    replace hW := nextB hA hw1
    clear hw1 HP hA
    go_wp2_with fail
    refine (HR.out _).mono ?_; rintro e w2 ⟨rfl, hw1⟩
    replace hW := nextB hW hw1
    clear hw1 HR
    have HWW := Lib.hid hW
    clear hW
    go_wp2_with fail
    go_loop [5] (fun t5 => ∃ i : Nat, i ≤ P.size ∧ t5 = .int .i64 i) (fun t5 => P.size - (intOf t5).toNat)
    case atStart => exact ⟨0, by omega, rfl⟩
    case round =>
      obtain ⟨i, hi, rfl⟩ := hrel
      by_cases hlt : i < P.size
      · have h32 := HHI.out i hlt
        have h32' : ¬ bt P i < 32 := by omega
        have i0 : (0 : Int) ≤ (i : Int) := by omega
        have i1 : (i : Int) < (P.size : Int) := by omega
        go_wp2_with fail
        go_round
        case rel => exact ⟨i + 1, by omega, by go_num⟩
        case measure => simp [intOf]; omega
      · have hW := HWW.out
        clear HWW HHI hi hb
        have i1 : ¬ (i : Int) < (P.size : Int) := by omega
        clear hpz hlt
        go_wp2_with (with_reducible refine wpList_bytes_of _ rfl (.tmp 41) rfl _ rfl ?_; intro g cc w7 hg1 hg2 hrow hb4)
        have HPC := HPP.out w7 _ cc (BytesAt.of_row hg2 hrow)
        replace hW := nextB hW hb4
        clear hg1 hg2 hrow hb4 HPP
        refine (HPC : Calls _ _ _ _ _).mono ?_; rintro e w8 ⟨c0, c1, c2, c3, c4, c5, c6, c7, c8, rfl, hn, hw8⟩
        replace hW := nextB hW hw8
        clear HPC hw8
        obtain ⟨hd0, hd1, hd2⟩ := NdIs.head hn
        obtain ⟨hl', hk⟩ := kid_cells hn
        obtain ⟨b, off, hA, hbl, hkid⟩ := hk (by simp)
        obtain ⟨k0, n0, m0⟩ := hkid 0 _ rfl
        have x0 := m0 2 _ n0.head.2.2
        simp at hd0 hd1 hd2 hl' x0
        subst hd0 hd1 hd2 hl' hA
        have y0 : (w8.alloc (.cells #[.int .i64 6, .int .i64 0, .string ⟨#[]⟩, .slice c3 c4 c5, .slice (some ⟨b, off, none⟩) 1 c8] 25)).cell? ⟨b, off + 2, none⟩ = some (.string s) := (World.cell?_alloc_lt _ _ _ hbl).trans x0
        replace hW := Below.alloc hW hW.size (.cells #[.int .i64 6, .int .i64 0, .string ⟨#[]⟩, .slice c3 c4 c5, .slice (some ⟨b, off, none⟩) 1 c8] 25)
        have hcmp : (s.toList == s.toList) = true := by simp
        clear hn hk hkid n0 m0 x0
        go_wp2_with fail
        refine (num3_any _ _).mono ?_; rintro e w9 ⟨rfl, hw⟩; obtain rfl : _ = w9 := hw
        go_wp2_with fail
        refine (num3_any _ _).mono ?_; rintro e w9 ⟨rfl, hw⟩; obtain rfl : _ = w9 := hw
        go_wp2_with fail
        refine (HW.out _ hW).mono ?_; rintro e w3 ⟨rfl, hw1⟩
        replace hW := nextB hW hw1
        clear hw1
        go_wp2_with fail
        go_ret
        exact ⟨rfl, hW⟩
end Go.Proofs.YtjigceoponlphaaDoor
