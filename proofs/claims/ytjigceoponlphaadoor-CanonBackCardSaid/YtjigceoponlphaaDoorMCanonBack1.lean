/- Texts of one seat, one behind the other: Cback. No condition. -/
import Derived.Test.YtjigceoponlphaaDoorQ7
/-! CanonBack: its walk. -/
namespace Go.Proofs.YtjigceoponlphaaDoor
open Go.RowKit Go.PlainAid
set_option linter.unusedVariables false
set_option linter.unusedSimpArgs false
theorem sameK_eq : ∀ (ks ms : List ByteArray), ks.length = ms.length → sameK ks ms = true → ks = ms
  | [], [], _, _ => rfl
  | [], _ :: _, h, _ => by simp at h
  | _ :: _, [], h, _ => by simp at h
  | a :: ks, b :: ms, h, hs => by
    unfold sameK at hs
    rw [Bool.and_eq_true, beq_iff_eq] at hs
    rw [ba_ext' hs.1, sameK_eq ks ms (by simpa using h) hs.2]
mutual
theorem sameN_eq : ∀ (n m : Nd), sameN n m = true → n = m
  | .mk k i t ks ns, .mk k' i' t' ks' ns', h => by
    unfold sameN at h
    simp only [Bool.and_eq_true, beq_iff_eq] at h
    obtain ⟨⟨⟨⟨⟨⟨h1, h2⟩, h3⟩, h4⟩, h5⟩, h6⟩, h7⟩ := h
    rw [h1, h2, ba_ext' h3, sameK_eq ks ks' h4 h6, sameL_eq ns ns' h5 h7]
theorem sameL_eq : ∀ (ns ms : List Nd), ns.length = ms.length → sameL ns ms = true → ns = ms
  | [], [], _, _ => rfl
  | [], _ :: _, h, _ => by simp at h
  | _ :: _, [], h, _ => by simp at h
  | n :: ns, m :: ms, h, hs => by
    unfold sameL at hs
    rw [Bool.and_eq_true] at hs
    rw [sameN_eq n m hs.1, sameL_eq ns ms (by simpa using h) hs.2]
end
/-- what a right value prints as -/
theorem prints_right {n : Nd} (h : rightD n 0 = true) : (65536 < (putU n).length ∧ printE n = 2) ∨ (¬ 65536 < (putU n).length ∧ printS n = ⟨(putU n).toArray⟩ ∧ printE n = 0) := by
  rw [printS_eq, printE_eq, h]
  by_cases hl : 65536 < (putU n).length
  · left
    rw [if_neg (by simp), if_pos hl]
    exact ⟨hl, rfl⟩
  · right
    rw [if_neg (by simp), if_neg hl, if_neg (by simp), if_neg hl]
    exact ⟨hl, rfl, rfl⟩
/-- two right values have one text just where they are one -/
theorem texts_one {n m : Nd} (hn : rightD n 0 = true) (hm : rightD m 0 = true) (ln : ¬ 65536 < (putU n).length) (lm : ¬ 65536 < (putU m).length) : ((⟨(putU n).toArray⟩ : ByteArray).toList == (⟨(putU m).toArray⟩ : ByteArray).toList) = sameN n m := by
  rw [lit_toList, lit_toList, Bool.eq_iff_iff, beq_iff_eq]
  constructor
  · intro e
    have h1 := parse_put n hn (by omega)
    have h2 := parse_put m hm (by omega)
    rw [e, h2] at h1
    injection h1 with h1
    rw [h1]
    exact sameN_refl n
  · intro e
    rw [sameN_eq n m e]
set_option maxRecDepth 100000 in
set_option maxHeartbeats 3000000 in
theorem canonBack_walk (a b : Nd) (cs ds : List Value) (W : World) (ha : NdIs W W.heap.size a cs) (hb : NdIs W W.heap.size b ds) (hT : TabOK W) :
    Calls Tryd.prog 3 #[.agg cs.toArray, .agg ds.toArray] W fun e W' => e = .returned (.bool true) ∧ Below W.heap.size W W' := by
  have hla := ha.len
  have hlb := hb.len
  match cs, hla, ds, hlb with
  | [v0, v1, v2, v3, v4], _, [u0, u1, u2, u3, u4], _ =>
  obtain ⟨x0, x1, x2, x3, x4, x5, x6, x7, x8, rfl, rfl, rfl, rfl, rfl⟩ := ha.form
  obtain ⟨y0, y1, y2, y3, y4, y5, y6, y7, y8, rfl, rfl, rfl, rfl, rfl⟩ := hb.form
  show Calls Tryd.prog 3 #[.agg #[.int .i64 x0, .int .i64 x1, .string x2, .slice x3 x4 x5, .slice x6 x7 x8], .agg #[.int .i64 y0, .int .i64 y1, .string y2, .slice y3 y4 y5, .slice y6 y7 y8]] W _
  have HA : Hid (∀ w', Below W.heap.size W w' → NdIs w' W.heap.size a [.int .i64 x0, .int .i64 x1, .string x2, .slice x3 x4 x5, .slice x6 x7 x8]) := fun w' h => ha.below h
  have HB : Hid (∀ w', Below W.heap.size W w' → NdIs w' W.heap.size b [.int .i64 y0, .int .i64 y1, .string y2, .slice y3 y4 y5, .slice y6 y7 y8]) := fun w' h => hb.below h
  have HGA : Hid (∀ w', Below W.heap.size W w' → Calls Tryd.prog 5 #[.agg #[.int .i64 x0, .int .i64 x1, .string x2, .slice x3 x4 x5, .slice x6 x7 x8]] w' (BoolBel (greatN a) w')) := fun w' h => great_any a _ w' W.heap.size (HA.out w' h) h.size
  have HGB : Hid (∀ w', Below W.heap.size W w' → Calls Tryd.prog 5 #[.agg #[.int .i64 y0, .int .i64 y1, .string y2, .slice y3 y4 y5, .slice y6 y7 y8]] w' (BoolBel (greatN b) w')) := fun w' h => great_any b _ w' W.heap.size (HB.out w' h) h.size
  have HRA : Hid (∀ w', Below W.heap.size W w' → Calls Tryd.prog 6 #[.agg #[.int .i64 x0, .int .i64 x1, .string x2, .slice x3 x4 x5, .slice x6 x7 x8]] w' (BoolBel (rightD a 0) w')) := fun w' h => rRight_any a _ w' W.heap.size (HA.out w' h) h.size
  have HRB : Hid (∀ w', Below W.heap.size W w' → Calls Tryd.prog 6 #[.agg #[.int .i64 y0, .int .i64 y1, .string y2, .slice y3 y4 y5, .slice y6 y7 y8]] w' (BoolBel (rightD b 0) w')) := fun w' h => rRight_any b _ w' W.heap.size (HB.out w' h) h.size
  have HW : Hid (∀ w', Below W.heap.size W w' → Calls Tryd.prog 7 #[] w' (BoolBel true w')) := fun w' h => awake8_any w' (hT.below h)
  have s0 : SS W (.int .i64 x0) (.int .i64 x1) (.string x2) (.slice x3 x4 x5) (.slice x6 x7 x8) (.int .i64 y0) (.int .i64 y1) (.string y2) (.slice y3 y4 y5) (.slice y6 y7 y8) ((W.alloc (.cells #[.int .i64 x0, .int .i64 x1, .string x2, .slice x3 x4 x5, .slice x6 x7 x8] 25)).alloc (.cells #[.int .i64 y0, .int .i64 y1, .string y2, .slice y3 y4 y5, .slice y6 y7 y8] 25)) := ss_new W _ _ _ _ _ _ _ _ _ _
  have hTab : Hid (∀ w', Below W.heap.size W w' → TabAt W.heap.size w') := fun w' h => ⟨W, hT, Nat.le_refl _, h⟩
  have HNA : Hid (greatN a = false → sizeOk a ∧ gN a ≤ 60000000) := fun h => not_great ha h
  have HNB : Hid (greatN b = false → sizeOk b ∧ gN b ≤ 60000000) := fun h => not_great hb h
  clear ha hb hT
  cases hga : greatN a with
  | true =>
    rw [hga] at HGA
    go_enter Tryd.func3, Tryd.ntmps3
    obtain ⟨⟨c0, c1, c2, c3, c4⟩, ⟨d0, d1, d2, d3, d4⟩, _, _⟩ := id s0
    go_wp2_with fail
    refine (HGA.out _ s0.2.2.2).mono ?_; rintro e w1 ⟨rfl, hw⟩
    have s1 := ss_below s0 hw
    clear hw c0 c1 c2 c3 c4 d0 d1 d2 d3 d4 s0
    obtain ⟨⟨c0, c1, c2, c3, c4⟩, ⟨d0, d1, d2, d3, d4⟩, _, _⟩ := id s1
    go_wp2_with fail
    refine (HW.out _ s1.2.2.2).mono ?_; rintro e w9 ⟨rfl, hw⟩
    have hB := (ss_below s1 hw).2.2.2
    clear hw c0 c1 c2 c3 c4 d0 d1 d2 d3 d4
    go_wp2_with fail
    go_ret
    exact ⟨rfl, hB⟩
  | false =>
  cases hgb : greatN b with
  | true =>
    rw [hga] at HGA
    rw [hgb] at HGB
    go_enter Tryd.func3, Tryd.ntmps3
    obtain ⟨⟨c0, c1, c2, c3, c4⟩, ⟨d0, d1, d2, d3, d4⟩, _, _⟩ := id s0
    go_wp2_with fail
    refine (HGA.out _ s0.2.2.2).mono ?_; rintro e w1 ⟨rfl, hw⟩
    have s1 := ss_below s0 hw
    clear hw c0 c1 c2 c3 c4 d0 d1 d2 d3 d4 s0
    obtain ⟨⟨c0, c1, c2, c3, c4⟩, ⟨d0, d1, d2, d3, d4⟩, _, _⟩ := id s1
    go_wp2_with fail
    refine (HGB.out _ s1.2.2.2).mono ?_; rintro e w2 ⟨rfl, hw⟩
    have s2 := ss_below s1 hw
    clear hw c0 c1 c2 c3 c4 d0 d1 d2 d3 d4 s1
    obtain ⟨⟨c0, c1, c2, c3, c4⟩, ⟨d0, d1, d2, d3, d4⟩, _, _⟩ := id s2
    go_wp2_with fail
    refine (HW.out _ s2.2.2.2).mono ?_; rintro e w9 ⟨rfl, hw⟩
    have hB := (ss_below s2 hw).2.2.2
    clear hw c0 c1 c2 c3 c4 d0 d1 d2 d3 d4
    go_wp2_with fail
    go_ret
    exact ⟨rfl, hB⟩
  | false =>
  cases hra : rightD a 0 with
  | false =>
    rw [hga] at HGA
    rw [hgb] at HGB
    rw [hra] at HRA
    go_enter Tryd.func3, Tryd.ntmps3
    obtain ⟨⟨c0, c1, c2, c3, c4⟩, ⟨d0, d1, d2, d3, d4⟩, _, _⟩ := id s0
    go_wp2_with fail
    refine (HGA.out _ s0.2.2.2).mono ?_; rintro e w1 ⟨rfl, hw⟩
    have s1 := ss_below s0 hw
    clear hw c0 c1 c2 c3 c4 d0 d1 d2 d3 d4 s0
    obtain ⟨⟨c0, c1, c2, c3, c4⟩, ⟨d0, d1, d2, d3, d4⟩, _, _⟩ := id s1
    go_wp2_with fail
    refine (HGB.out _ s1.2.2.2).mono ?_; rintro e w2 ⟨rfl, hw⟩
    have s2 := ss_below s1 hw
    clear hw c0 c1 c2 c3 c4 d0 d1 d2 d3 d4 s1
    obtain ⟨⟨c0, c1, c2, c3, c4⟩, ⟨d0, d1, d2, d3, d4⟩, _, _⟩ := id s2
    go_wp2_with fail
    refine (HRA.out _ s2.2.2.2).mono ?_; rintro e w3 ⟨rfl, hw⟩
    have s3 := ss_below s2 hw
    clear hw c0 c1 c2 c3 c4 d0 d1 d2 d3 d4 s2
    obtain ⟨⟨c0, c1, c2, c3, c4⟩, ⟨d0, d1, d2, d3, d4⟩, _, _⟩ := id s3
    go_wp2_with fail
    refine (HW.out _ s3.2.2.2).mono ?_; rintro e w9 ⟨rfl, hw⟩
    have hB := (ss_below s3 hw).2.2.2
    clear hw c0 c1 c2 c3 c4 d0 d1 d2 d3 d4
    go_wp2_with fail
    go_ret
    exact ⟨rfl, hB⟩
  | true =>
  cases hrb : rightD b 0 with
  | false =>
    rw [hga] at HGA
    rw [hgb] at HGB
    rw [hra] at HRA
    rw [hrb] at HRB
    go_enter Tryd.func3, Tryd.ntmps3
    obtain ⟨⟨c0, c1, c2, c3, c4⟩, ⟨d0, d1, d2, d3, d4⟩, _, _⟩ := id s0
    go_wp2_with fail
    refine (HGA.out _ s0.2.2.2).mono ?_; rintro e w1 ⟨rfl, hw⟩
    have s1 := ss_below s0 hw
    clear hw c0 c1 c2 c3 c4 d0 d1 d2 d3 d4 s0
    obtain ⟨⟨c0, c1, c2, c3, c4⟩, ⟨d0, d1, d2, d3, d4⟩, _, _⟩ := id s1
    go_wp2_with fail
    refine (HGB.out _ s1.2.2.2).mono ?_; rintro e w2 ⟨rfl, hw⟩
    have s2 := ss_below s1 hw
    clear hw c0 c1 c2 c3 c4 d0 d1 d2 d3 d4 s1
    obtain ⟨⟨c0, c1, c2, c3, c4⟩, ⟨d0, d1, d2, d3, d4⟩, _, _⟩ := id s2
    go_wp2_with fail
    refine (HRA.out _ s2.2.2.2).mono ?_; rintro e w3 ⟨rfl, hw⟩
    have s3 := ss_below s2 hw
    clear hw c0 c1 c2 c3 c4 d0 d1 d2 d3 d4 s2
    obtain ⟨⟨c0, c1, c2, c3, c4⟩, ⟨d0, d1, d2, d3, d4⟩, _, _⟩ := id s3
    go_wp2_with fail
    refine (HRB.out _ s3.2.2.2).mono ?_; rintro e w4 ⟨rfl, hw⟩
    have s4 := ss_below s3 hw
    clear hw c0 c1 c2 c3 c4 d0 d1 d2 d3 d4 s3
    obtain ⟨⟨c0, c1, c2, c3, c4⟩, ⟨d0, d1, d2, d3, d4⟩, _, _⟩ := id s4
    go_wp2_with fail
    refine (HW.out _ s4.2.2.2).mono ?_; rintro e w9 ⟨rfl, hw⟩
    have hB := (ss_below s4 hw).2.2.2
    clear hw c0 c1 c2 c3 c4 d0 d1 d2 d3 d4
    go_wp2_with fail
    go_ret
    exact ⟨rfl, hB⟩
  | true =>
  have hza := HNA.out hga
  have hzb := HNB.out hgb
  have HPA : Hid (∀ w', Below W.heap.size W w' → Calls Tryd.prog 8 #[.agg #[.int .i64 x0, .int .i64 x1, .string x2, .slice x3 x4 x5, .slice x6 x7 x8]] w' (StrErr (printS a) (printE a) w')) := fun w' h =>
    CPrint_any a _ w' W.heap.size (HA.out w' h) h.size (hTab.out w' h) (fun hr => good_of a 0 hza.1 hr) (by have := hza.2; omega)
  have HPB : Hid (∀ w', Below W.heap.size W w' → Calls Tryd.prog 8 #[.agg #[.int .i64 y0, .int .i64 y1, .string y2, .slice y3 y4 y5, .slice y6 y7 y8]] w' (StrErr (printS b) (printE b) w')) := fun w' h =>
    CPrint_any b _ w' W.heap.size (HB.out w' h) h.size (hTab.out w' h) (fun hr => good_of b 0 hzb.1 hr) (by have := hzb.2; omega)
  rw [hga] at HGA
  rw [hgb] at HGB
  rw [hra] at HRA
  rw [hrb] at HRB
  clear hza hzb HNA HNB hga hgb hTab
  rcases prints_right hra with ⟨_, ea⟩ | ⟨la, sa, ea⟩
  · rw [ea] at HPA
    generalize printS a = SA at *
    generalize printS b = SB at *
    generalize printE b = EB at *
    clear hra hrb ea HA HB
    go_enter Tryd.func3, Tryd.ntmps3
    obtain ⟨⟨c0, c1, c2, c3, c4⟩, ⟨d0, d1, d2, d3, d4⟩, _, _⟩ := id s0
    go_wp2_with fail
    refine (HGA.out _ s0.2.2.2).mono ?_; rintro e w1 ⟨rfl, hw⟩
    have s1 := ss_below s0 hw
    clear hw c0 c1 c2 c3 c4 d0 d1 d2 d3 d4 s0
    obtain ⟨⟨c0, c1, c2, c3, c4⟩, ⟨d0, d1, d2, d3, d4⟩, _, _⟩ := id s1
    go_wp2_with fail
    refine (HGB.out _ s1.2.2.2).mono ?_; rintro e w2 ⟨rfl, hw⟩
    have s2 := ss_below s1 hw
    clear hw c0 c1 c2 c3 c4 d0 d1 d2 d3 d4 s1
    obtain ⟨⟨c0, c1, c2, c3, c4⟩, ⟨d0, d1, d2, d3, d4⟩, _, _⟩ := id s2
    go_wp2_with fail
    refine (HRA.out _ s2.2.2.2).mono ?_; rintro e w3 ⟨rfl, hw⟩
    have s3 := ss_below s2 hw
    clear hw c0 c1 c2 c3 c4 d0 d1 d2 d3 d4 s2
    obtain ⟨⟨c0, c1, c2, c3, c4⟩, ⟨d0, d1, d2, d3, d4⟩, _, _⟩ := id s3
    go_wp2_with fail
    refine (HRB.out _ s3.2.2.2).mono ?_; rintro e w4 ⟨rfl, hw⟩
    have s4 := ss_below s3 hw
    clear hw c0 c1 c2 c3 c4 d0 d1 d2 d3 d4 s3
    obtain ⟨⟨c0, c1, c2, c3, c4⟩, ⟨d0, d1, d2, d3, d4⟩, _, _⟩ := id s4
    go_wp2_with fail
    refine (HPA.out _ s4.2.2.2).mono ?_; rintro e w5 ⟨rfl, hw⟩
    have s5 := ss_below s4 hw
    clear hw c0 c1 c2 c3 c4 d0 d1 d2 d3 d4 s4
    obtain ⟨⟨c0, c1, c2, c3, c4⟩, ⟨d0, d1, d2, d3, d4⟩, _, _⟩ := id s5
    go_wp2_with fail
    refine (HPB.out _ s5.2.2.2).mono ?_; rintro e w6 ⟨rfl, hw⟩
    have s6 := ss_below s5 hw
    clear hw c0 c1 c2 c3 c4 d0 d1 d2 d3 d4 s5
    obtain ⟨⟨c0, c1, c2, c3, c4⟩, ⟨d0, d1, d2, d3, d4⟩, _, _⟩ := id s6
    go_wp2_with fail
    refine (num3_any _ _).mono ?_; rintro e w9 ⟨rfl, hw⟩; obtain rfl : _ = w9 := hw
    go_wp2_with fail
    refine (num3_any _ _).mono ?_; rintro e w9 ⟨rfl, hw⟩; obtain rfl : _ = w9 := hw
    go_wp2_with fail
    refine (HW.out _ s6.2.2.2).mono ?_; rintro e w9 ⟨rfl, hw⟩
    have hB := (ss_below s6 hw).2.2.2
    clear hw c0 c1 c2 c3 c4 d0 d1 d2 d3 d4
    go_wp2_with fail
    go_ret
    exact ⟨rfl, hB⟩
  rcases prints_right hrb with ⟨_, eb⟩ | ⟨lb, sb, eb⟩
  · rw [ea] at HPA
    rw [eb] at HPB
    generalize printS a = SA at *
    generalize printS b = SB at *
    clear hra hrb ea eb HA HB sa
    go_enter Tryd.func3, Tryd.ntmps3
    obtain ⟨⟨c0, c1, c2, c3, c4⟩, ⟨d0, d1, d2, d3, d4⟩, _, _⟩ := id s0
    go_wp2_with fail
    refine (HGA.out _ s0.2.2.2).mono ?_; rintro e w1 ⟨rfl, hw⟩
    have s1 := ss_below s0 hw
    clear hw c0 c1 c2 c3 c4 d0 d1 d2 d3 d4 s0
    obtain ⟨⟨c0, c1, c2, c3, c4⟩, ⟨d0, d1, d2, d3, d4⟩, _, _⟩ := id s1
    go_wp2_with fail
    refine (HGB.out _ s1.2.2.2).mono ?_; rintro e w2 ⟨rfl, hw⟩
    have s2 := ss_below s1 hw
    clear hw c0 c1 c2 c3 c4 d0 d1 d2 d3 d4 s1
    obtain ⟨⟨c0, c1, c2, c3, c4⟩, ⟨d0, d1, d2, d3, d4⟩, _, _⟩ := id s2
    go_wp2_with fail
    refine (HRA.out _ s2.2.2.2).mono ?_; rintro e w3 ⟨rfl, hw⟩
    have s3 := ss_below s2 hw
    clear hw c0 c1 c2 c3 c4 d0 d1 d2 d3 d4 s2
    obtain ⟨⟨c0, c1, c2, c3, c4⟩, ⟨d0, d1, d2, d3, d4⟩, _, _⟩ := id s3
    go_wp2_with fail
    refine (HRB.out _ s3.2.2.2).mono ?_; rintro e w4 ⟨rfl, hw⟩
    have s4 := ss_below s3 hw
    clear hw c0 c1 c2 c3 c4 d0 d1 d2 d3 d4 s3
    obtain ⟨⟨c0, c1, c2, c3, c4⟩, ⟨d0, d1, d2, d3, d4⟩, _, _⟩ := id s4
    go_wp2_with fail
    refine (HPA.out _ s4.2.2.2).mono ?_; rintro e w5 ⟨rfl, hw⟩
    have s5 := ss_below s4 hw
    clear hw c0 c1 c2 c3 c4 d0 d1 d2 d3 d4 s4
    obtain ⟨⟨c0, c1, c2, c3, c4⟩, ⟨d0, d1, d2, d3, d4⟩, _, _⟩ := id s5
    go_wp2_with fail
    refine (HPB.out _ s5.2.2.2).mono ?_; rintro e w6 ⟨rfl, hw⟩
    have s6 := ss_below s5 hw
    clear hw c0 c1 c2 c3 c4 d0 d1 d2 d3 d4 s5
    obtain ⟨⟨c0, c1, c2, c3, c4⟩, ⟨d0, d1, d2, d3, d4⟩, _, _⟩ := id s6
    go_wp2_with fail
    refine (num3_any _ _).mono ?_; rintro e w9 ⟨rfl, hw⟩; obtain rfl : _ = w9 := hw
    go_wp2_with fail
    refine (num3_any _ _).mono ?_; rintro e w9 ⟨rfl, hw⟩; obtain rfl : _ = w9 := hw
    go_wp2_with fail
    refine (num3_any _ _).mono ?_; rintro e w9 ⟨rfl, hw⟩; obtain rfl : _ = w9 := hw
    go_wp2_with fail
    refine (num3_any _ _).mono ?_; rintro e w9 ⟨rfl, hw⟩; obtain rfl : _ = w9 := hw
    go_wp2_with fail
    refine (HW.out _ s6.2.2.2).mono ?_; rintro e w9 ⟨rfl, hw⟩
    have hB := (ss_below s6 hw).2.2.2
    clear hw c0 c1 c2 c3 c4 d0 d1 d2 d3 d4
    go_wp2_with fail
    go_ret
    exact ⟨rfl, hB⟩
  rw [ea, sa] at HPA
  rw [eb, sb] at HPB
  have hcmp := texts_one hra hrb la lb
  have hpp := parse_put a hra (by omega)
  have hsz : (⟨(putU a).toArray⟩ : ByteArray).toList = putU a := lit_toList _
  have HP : Hid (∀ w' A c, BytesAt w' A c ⟨(putU a).toArray⟩ → Calls Tryd.prog 10 #[.slice A (⟨(putU a).toArray⟩ : ByteArray).size c] w' (PEnd (.ok a) w')) := fun w' A c hb => by
    have := parse_law ⟨(putU a).toArray⟩ A c w' hb
    rw [hsz, hpp] at this
    exact this
  generalize (⟨(putU a).toArray⟩ : ByteArray) = SA at *
  generalize (⟨(putU b).toArray⟩ : ByteArray) = SB at *
  clear hra hrb ea eb sa sb la lb hpp hsz
  have HSA : Hid (∀ w' (cs : List Value), NdIs w' w'.heap.size a cs → Below W.heap.size W w' → Calls Tryd.prog 11 #[.agg cs.toArray, .agg #[.int .i64 x0, .int .i64 x1, .string x2, .slice x3 x4 x5, .slice x6 x7 x8]] w' (BoolBel true w')) := fun w' cs h hb => by
    have := rSame_any a.count a a cs [.int .i64 x0, .int .i64 x1, .string x2, .slice x3 x4 x5, .slice x6 x7 x8] w' w'.heap.size (Nat.le_refl _) h (NdIs.more hb.size _ _ (HA.out w' hb)) (Nat.le_refl _)
    rw [sameN_refl] at this
    exact this
  have HSB : Hid (∀ w', Below W.heap.size W w' → Calls Tryd.prog 11 #[.agg #[.int .i64 x0, .int .i64 x1, .string x2, .slice x3 x4 x5, .slice x6 x7 x8], .agg #[.int .i64 y0, .int .i64 y1, .string y2, .slice y3 y4 y5, .slice y6 y7 y8]] w' (BoolBel (sameN a b) w')) := fun w' hb =>
    rSame_any a.count a b _ _ w' W.heap.size (Nat.le_refl _) (HA.out w' hb) (HB.out w' hb) hb.size
  clear HA HB
  generalize sameN a b = M at *
  go_enter Tryd.func3, Tryd.ntmps3
  obtain ⟨⟨c0, c1, c2, c3, c4⟩, ⟨d0, d1, d2, d3, d4⟩, _, _⟩ := id s0
  go_wp2_with fail
  refine (HGA.out _ s0.2.2.2).mono ?_; rintro e w1 ⟨rfl, hw⟩
  have s1 := ss_below s0 hw
  clear hw c0 c1 c2 c3 c4 d0 d1 d2 d3 d4 s0
  obtain ⟨⟨c0, c1, c2, c3, c4⟩, ⟨d0, d1, d2, d3, d4⟩, _, _⟩ := id s1
  go_wp2_with fail
  refine (HGB.out _ s1.2.2.2).mono ?_; rintro e w2 ⟨rfl, hw⟩
  have s2 := ss_below s1 hw
  clear hw c0 c1 c2 c3 c4 d0 d1 d2 d3 d4 s1
  obtain ⟨⟨c0, c1, c2, c3, c4⟩, ⟨d0, d1, d2, d3, d4⟩, _, _⟩ := id s2
  go_wp2_with fail
  refine (HRA.out _ s2.2.2.2).mono ?_; rintro e w3 ⟨rfl, hw⟩
  have s3 := ss_below s2 hw
  clear hw c0 c1 c2 c3 c4 d0 d1 d2 d3 d4 s2
  obtain ⟨⟨c0, c1, c2, c3, c4⟩, ⟨d0, d1, d2, d3, d4⟩, _, _⟩ := id s3
  go_wp2_with fail
  refine (HRB.out _ s3.2.2.2).mono ?_; rintro e w4 ⟨rfl, hw⟩
  have s4 := ss_below s3 hw
  clear hw c0 c1 c2 c3 c4 d0 d1 d2 d3 d4 s3
  obtain ⟨⟨c0, c1, c2, c3, c4⟩, ⟨d0, d1, d2, d3, d4⟩, _, _⟩ := id s4
  go_wp2_with fail
  refine (HPA.out _ s4.2.2.2).mono ?_; rintro e w5 ⟨rfl, hw⟩
  have s5 := ss_below s4 hw
  clear hw c0 c1 c2 c3 c4 d0 d1 d2 d3 d4 s4
  obtain ⟨⟨c0, c1, c2, c3, c4⟩, ⟨d0, d1, d2, d3, d4⟩, _, _⟩ := id s5
  go_wp2_with fail
  refine (HPB.out _ s5.2.2.2).mono ?_; rintro e w6 ⟨rfl, hw⟩
  have s6 := ss_below s5 hw
  clear hw c0 c1 c2 c3 c4 d0 d1 d2 d3 d4 s5
  obtain ⟨⟨c0, c1, c2, c3, c4⟩, ⟨d0, d1, d2, d3, d4⟩, _, _⟩ := id s6
  go_wp2_with fail
  refine (num3_any _ _).mono ?_; rintro e w9 ⟨rfl, hw⟩; obtain rfl : _ = w9 := hw
  go_wp2_with fail
  refine (num3_any _ _).mono ?_; rintro e w9 ⟨rfl, hw⟩; obtain rfl : _ = w9 := hw
  go_wp2_with (with_reducible refine wpList_bytes_of _ rfl (.tmp 58) rfl _ rfl ?_; intro g cc w7 hg1 hg2 hrow hb4)
  have s7 := ss_below s6 hb4
  have HPC := HP.out w7 _ cc (BytesAt.of_row hg2 hrow)
  clear hg1 hg2 hrow hb4 HP s6 c0 c1 c2 c3 c4 d0 d1 d2 d3 d4
  refine (HPC : Calls _ _ _ _ _).mono ?_; rintro e w8 ⟨c0, c1, c2, c3, c4, c5, c6, c7, c8, rfl, hn, hw8⟩
  have hA : Below w8.heap.size w8 (w8.alloc (.cells #[.int .i64 c0, .int .i64 c1, .string c2, .slice c3 c4 c5, .slice c6 c7 c8] 25)) := (Below.refl _ _).alloc (Nat.le_refl _) _
  have s8 := ss_below (ss_below s7 hw8) hA
  have HM := Lib.hid (NdIs.more hA.size _ _ (hn.below hA))
  clear HPC hn hw8 hA s7
  obtain ⟨⟨e0, e1, e2, e3, e4⟩, ⟨d0, d1, d2, d3, d4⟩, _, _⟩ := id s8
  go_wp2_with fail
  refine (num3_any _ _).mono ?_; rintro e w9 ⟨rfl, hw⟩; obtain rfl : _ = w9 := hw
  go_wp2_with fail
  have HSC := HSA.out _ _ HM.out s8.2.2.2
  refine (HSC : Calls _ _ _ _ _).mono ?_; rintro e w9 ⟨rfl, hw⟩
  have s9 := ss_below s8 hw
  clear hw e0 e1 e2 e3 e4 d0 d1 d2 d3 d4 s8 HSC HM HSA
  obtain ⟨⟨e0, e1, e2, e3, e4⟩, ⟨d0, d1, d2, d3, d4⟩, _, _⟩ := id s9
  go_wp2_with fail
  refine (HSB.out _ s9.2.2.2).mono ?_; rintro e w10 ⟨rfl, hw⟩
  have s10 := ss_below s9 hw
  clear hw e0 e1 e2 e3 e4 d0 d1 d2 d3 d4 s9 HSB
  cases M <;> (
    go_wp2_with fail
    refine (HW.out _ s10.2.2.2).mono ?_; rintro e w11 ⟨rfl, hw⟩
    have hB := (ss_below s10 hw).2.2.2
    clear hw s10
    go_wp2_with fail
    go_ret
    exact ⟨rfl, hB⟩)
end Go.Proofs.YtjigceoponlphaaDoor
