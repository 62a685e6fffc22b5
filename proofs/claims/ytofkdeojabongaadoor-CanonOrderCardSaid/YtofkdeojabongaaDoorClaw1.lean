/- The walks of CanonAll and CanonWithin. -/
import Derived.Test.YtofkdeojabongaaDoorClaw0
import Derived.Deep.RegionHeld3
namespace Go.Proofs.YtofkdeojabongaaDoor
open Go.RowKit Go.PlainAid
set_option linter.unusedVariables false
set_option linter.unusedSimpArgs false
/-- two values in the two first blocks of a call -/
abbrev SS (W : World) (v0 v1 v2 v3 v4 u0 u1 u2 u3 u4 : Value) (w' : World) : Prop :=
  (w'.cell? ⟨W.heap.size, 0, none⟩ = some v0 ∧ w'.cell? ⟨W.heap.size, 1, none⟩ = some v1 ∧ w'.cell? ⟨W.heap.size, 2, none⟩ = some v2 ∧ w'.cell? ⟨W.heap.size, 3, none⟩ = some v3 ∧ w'.cell? ⟨W.heap.size, 4, none⟩ = some v4) ∧
  (w'.cell? ⟨W.heap.size + 1, 0, none⟩ = some u0 ∧ w'.cell? ⟨W.heap.size + 1, 1, none⟩ = some u1 ∧ w'.cell? ⟨W.heap.size + 1, 2, none⟩ = some u2 ∧ w'.cell? ⟨W.heap.size + 1, 3, none⟩ = some u3 ∧ w'.cell? ⟨W.heap.size + 1, 4, none⟩ = some u4) ∧
  W.heap.size + 1 < w'.heap.size ∧ Below W.heap.size W w'
theorem ss_below {W w w1 : World} {v0 v1 v2 v3 v4 u0 u1 u2 u3 u4 : Value} (h : SS W v0 v1 v2 v3 v4 u0 u1 u2 u3 u4 w) (hb : Below w.heap.size w w1) : SS W v0 v1 v2 v3 v4 u0 u1 u2 u3 u4 w1 := by
  obtain ⟨⟨a0, a1, a2, a3, a4⟩, ⟨b0, b1, b2, b3, b4⟩, h3, h4⟩ := h
  have ca : ∀ i, w1.cell? ⟨W.heap.size, i, none⟩ = w.cell? ⟨W.heap.size, i, none⟩ := fun i => hb.cell (p := ⟨W.heap.size, i, none⟩) (by show W.heap.size < w.heap.size; omega)
  have cb : ∀ i, w1.cell? ⟨W.heap.size + 1, i, none⟩ = w.cell? ⟨W.heap.size + 1, i, none⟩ := fun i => hb.cell (p := ⟨W.heap.size + 1, i, none⟩) h3
  exact ⟨⟨(ca 0).trans a0, (ca 1).trans a1, (ca 2).trans a2, (ca 3).trans a3, (ca 4).trans a4⟩, ⟨(cb 0).trans b0, (cb 1).trans b1, (cb 2).trans b2, (cb 3).trans b3, (cb 4).trans b4⟩, by have := hb.size; omega, h4.trans (hb.mono h4.size)⟩
theorem ss_drew {W w : World} {v0 v1 v2 v3 v4 u0 u1 u2 u3 u4 : Value} (h : SS W v0 v1 v2 v3 v4 u0 u1 u2 u3 u4 w) : SS W v0 v1 v2 v3 v4 u0 u1 u2 u3 u4 w.drew := ss_below h (Below.refl _ _).drew
theorem ss_new (W : World) (v0 v1 v2 v3 v4 u0 u1 u2 u3 u4 : Value) : SS W v0 v1 v2 v3 v4 u0 u1 u2 u3 u4 ((W.alloc (.cells #[v0, v1, v2, v3, v4] 25)).alloc (.cells #[u0, u1, u2, u3, u4] 25)) := by
  obtain ⟨a0, a1, a2, a3, a4⟩ := ((Blk.new W 25 #[v0, v1, v2, v3, v4]).alloc (.cells #[u0, u1, u2, u3, u4] 25)).cells5
  obtain ⟨b0, b1, b2, b3, b4⟩ := (Blk.new (W.alloc (.cells #[v0, v1, v2, v3, v4] 25)) 25 #[u0, u1, u2, u3, u4]).cells5
  simp only [World.size_alloc] at b0 b1 b2 b3 b4
  exact ⟨⟨a0, a1, a2, a3, a4⟩, ⟨b0, b1, b2, b3, b4⟩, by simp, ((Below.refl _ _).alloc (Nat.le_refl _) _).alloc (by simp) _⟩
mutual
theorem sameN_refl : ∀ n : Nd, sameN n n = true
  | .mk k m t ks ns => by unfold sameN; simp [sameL_refl ns, sameK_refl ks]
theorem sameL_refl : ∀ ns : List Nd, sameL ns ns = true
  | [] => by unfold sameL; rfl
  | n :: ns => by unfold sameL; simp [sameN_refl n, sameL_refl ns]
theorem sameK_refl : ∀ ks : List ByteArray, sameK ks ks = true
  | [] => rfl
  | a :: l => by unfold sameK; simp [sameK_refl l]
end
set_option maxRecDepth 100000 in
set_option maxHeartbeats 3000000 in
theorem canonAll_walk (a b : Nd) (cs ds : List Value) (W : World) (ha : NdIs W W.heap.size a cs) (hb : NdIs W W.heap.size b ds) (hT : TabOK W) :
    Calls Tryd.prog 4 #[.agg cs.toArray, .agg ds.toArray] W fun e W' => e = .returned (.bool true) ∧ Below W.heap.size W W' := by
  have hla := ha.len
  have hlb := hb.len
  match cs, hla, ds, hlb with
  | [v0, v1, v2, v3, v4], _, [u0, u1, u2, u3, u4], _ =>
    obtain ⟨x0, x1, x2, x3, x4, x5, x6, x7, x8, rfl, rfl, rfl, rfl, rfl⟩ := ha.form
    obtain ⟨y0, y1, y2, y3, y4, y5, y6, y7, y8, rfl, rfl, rfl, rfl, rfl⟩ := hb.form
    show Calls Tryd.prog 4 #[.agg #[.int .i64 x0, .int .i64 x1, .string x2, .slice x3 x4 x5, .slice x6 x7 x8], .agg #[.int .i64 y0, .int .i64 y1, .string y2, .slice y3 y4 y5, .slice y6 y7 y8]] W _
    have HA : Hid (∀ w', Below W.heap.size W w' → NdIs w' W.heap.size a [.int .i64 x0, .int .i64 x1, .string x2, .slice x3 x4 x5, .slice x6 x7 x8]) := fun w' h => ha.below h
    have HB : Hid (∀ w', Below W.heap.size W w' → NdIs w' W.heap.size b [.int .i64 y0, .int .i64 y1, .string y2, .slice y3 y4 y5, .slice y6 y7 y8]) := fun w' h => hb.below h
    have HGA : Hid (∀ w', Below W.heap.size W w' → Calls Tryd.prog 9 #[.agg #[.int .i64 x0, .int .i64 x1, .string x2, .slice x3 x4 x5, .slice x6 x7 x8]] w' (BoolBel (greatN a) w')) := fun w' h => great_any a _ w' W.heap.size (HA.out w' h) h.size
    have HGB : Hid (∀ w', Below W.heap.size W w' → Calls Tryd.prog 9 #[.agg #[.int .i64 y0, .int .i64 y1, .string y2, .slice y3 y4 y5, .slice y6 y7 y8]] w' (BoolBel (greatN b) w')) := fun w' h => great_any b _ w' W.heap.size (HB.out w' h) h.size
    have HW : Hid (∀ w', Below W.heap.size W w' → Calls Tryd.prog 10 #[] w' (BoolBel true w')) := fun w' h => awake8_any w' (hT.below h)
    have s0 : SS W (.int .i64 x0) (.int .i64 x1) (.string x2) (.slice x3 x4 x5) (.slice x6 x7 x8) (.int .i64 y0) (.int .i64 y1) (.string y2) (.slice y3 y4 y5) (.slice y6 y7 y8) ((W.alloc (.cells #[.int .i64 x0, .int .i64 x1, .string x2, .slice x3 x4 x5, .slice x6 x7 x8] 25)).alloc (.cells #[.int .i64 y0, .int .i64 y1, .string y2, .slice y3 y4 y5, .slice y6 y7 y8] 25)) := ss_new W _ _ _ _ _ _ _ _ _ _
    have hTab : Hid (∀ w', Below W.heap.size W w' → TabAt W.heap.size w') := fun w' h => ⟨W, hT, Nat.le_refl _, h⟩
    have HNG : Hid (greatN a = false → sizeOk a ∧ gN a ≤ 60000000) := fun h => not_great ha h
    clear ha hb hT
    generalize hga : greatN a = ga at *
    generalize hgb : greatN b = gb at *
    cases ga with
    | true =>
      go_enter Tryd.func4, Tryd.ntmps4
      go_wp2_with fail
      refine (HGA.out _ s0.2.2.2).mono ?_; rintro e w1 ⟨rfl, hw1⟩
      have s1 := ss_below s0 hw1
      go_wp2_with fail
      refine (HW.out _ s1.2.2.2).mono ?_; rintro e w2 ⟨rfl, hw2⟩
      go_wp2_with fail
      go_ret
      exact ⟨rfl, (ss_below s1 hw2).2.2.2⟩
    | false =>
    cases gb with
    | true =>
      go_enter Tryd.func4, Tryd.ntmps4
      go_wp2_with fail
      refine (HGA.out _ s0.2.2.2).mono ?_; rintro e w1 ⟨rfl, hw1⟩
      have s1 := ss_below s0 hw1
      obtain ⟨⟨c0, c1, c2, c3, c4⟩, ⟨d0, d1, d2, d3, d4⟩, _, hB1⟩ := s1
      go_wp2_with fail
      refine (HGB.out _ hB1).mono ?_; rintro e w2 ⟨rfl, hw2⟩
      have hB2 := hB1.trans (hw2.mono hB1.size)
      clear c0 c1 c2 c3 c4 d0 d1 d2 d3 d4
      go_wp2_with fail
      refine (HW.out _ hB2).mono ?_; rintro e w3 ⟨rfl, hw3⟩
      go_wp2_with fail
      go_ret
      exact ⟨rfl, hB2.trans (hw3.mono hB2.size)⟩
    | false =>
      have hza := HNG.out (by trivial)
      have HCP : Hid (∀ w', Below W.heap.size W w' → Calls Tryd.prog 11 #[.agg #[.int .i64 x0, .int .i64 x1, .string x2, .slice x3 x4 x5, .slice x6 x7 x8]] w' (StrErr (printS a) (printE a) w')) := fun w' h =>
        CPrint_any a _ w' W.heap.size (HA.out w' h) h.size (hTab.out w' h) (fun hr => good_of a 0 hza.1 hr) (by have := hza.2; omega)
      have HRP : Hid (∀ w', Below W.heap.size W w' → Calls Tryd.prog 13 #[.agg #[.int .i64 x0, .int .i64 x1, .string x2, .slice x3 x4 x5, .slice x6 x7 x8]] w' (StrErr (printS a) (printE a) w')) := fun w' h =>
        rPrint_any a _ w' W.heap.size (HA.out w' h) h.size (fun hr => good_of a 0 hza.1 hr) (by have := hza.2; omega)
      have HR : Hid (∀ w', SS W (.int .i64 x0) (.int .i64 x1) (.string x2) (.slice x3 x4 x5) (.slice x6 x7 x8) (.int .i64 y0) (.int .i64 y1) (.string y2) (.slice y3 y4 y5) (.slice y6 y7 y8) w' → Calls Tryd.prog 14 #[.agg #[.int .i64 x0, .int .i64 x1, .string x2, .slice x3 x4 x5, .slice x6 x7 x8]] w' (BoolBel (rightD a 0) w')) := fun w' h => CRight_any a _ w' W.heap.size (HA.out w' h.2.2.2) h.2.2.2.size
      have HRR : Hid (∀ w', SS W (.int .i64 x0) (.int .i64 x1) (.string x2) (.slice x3 x4 x5) (.slice x6 x7 x8) (.int .i64 y0) (.int .i64 y1) (.string y2) (.slice y3 y4 y5) (.slice y6 y7 y8) w' → Calls Tryd.prog 15 #[.agg #[.int .i64 x0, .int .i64 x1, .string x2, .slice x3 x4 x5, .slice x6 x7 x8]] w' (BoolBel (rightD a 0) w')) := fun w' h => rRight_any a _ w' W.heap.size (HA.out w' h.2.2.2) h.2.2.2.size
      have HS1 : Hid (∀ w', SS W (.int .i64 x0) (.int .i64 x1) (.string x2) (.slice x3 x4 x5) (.slice x6 x7 x8) (.int .i64 y0) (.int .i64 y1) (.string y2) (.slice y3 y4 y5) (.slice y6 y7 y8) w' → Calls Tryd.prog 16 #[.agg #[.int .i64 x0, .int .i64 x1, .string x2, .slice x3 x4 x5, .slice x6 x7 x8], .agg #[.int .i64 y0, .int .i64 y1, .string y2, .slice y3 y4 y5, .slice y6 y7 y8]] w' (BoolBel (sameN a b) w')) := fun w' h => cSame_any a.count a b _ _ w' W.heap.size (Nat.le_refl _) (HA.out w' h.2.2.2) (HB.out w' h.2.2.2) h.2.2.2.size
      have HS2 : Hid (∀ w', SS W (.int .i64 x0) (.int .i64 x1) (.string x2) (.slice x3 x4 x5) (.slice x6 x7 x8) (.int .i64 y0) (.int .i64 y1) (.string y2) (.slice y3 y4 y5) (.slice y6 y7 y8) w' → Calls Tryd.prog 17 #[.agg #[.int .i64 x0, .int .i64 x1, .string x2, .slice x3 x4 x5, .slice x6 x7 x8], .agg #[.int .i64 y0, .int .i64 y1, .string y2, .slice y3 y4 y5, .slice y6 y7 y8]] w' (BoolBel (sameN a b) w')) := fun w' h => rSame_any a.count a b _ _ w' W.heap.size (Nat.le_refl _) (HA.out w' h.2.2.2) (HB.out w' h.2.2.2) h.2.2.2.size
      have HS3 : Hid (∀ w', SS W (.int .i64 x0) (.int .i64 x1) (.string x2) (.slice x3 x4 x5) (.slice x6 x7 x8) (.int .i64 y0) (.int .i64 y1) (.string y2) (.slice y3 y4 y5) (.slice y6 y7 y8) w' → Calls Tryd.prog 16 #[.agg #[.int .i64 x0, .int .i64 x1, .string x2, .slice x3 x4 x5, .slice x6 x7 x8], .agg #[.int .i64 x0, .int .i64 x1, .string x2, .slice x3 x4 x5, .slice x6 x7 x8]] w' (BoolBel true w')) := fun w' h => by
        have := cSame_any a.count a a _ _ w' W.heap.size (Nat.le_refl _) (HA.out w' h.2.2.2) (HA.out w' h.2.2.2) h.2.2.2.size
        rw [sameN_refl] at this
        exact this
      have HW2 : Hid (∀ w', SS W (.int .i64 x0) (.int .i64 x1) (.string x2) (.slice x3 x4 x5) (.slice x6 x7 x8) (.int .i64 y0) (.int .i64 y1) (.string y2) (.slice y3 y4 y5) (.slice y6 y7 y8) w' → Calls Tryd.prog 10 #[] w' (BoolBel true w')) := fun w' h => HW.out w' h.2.2.2
      clear hza HNG hTab HA HB hga hgb
      generalize printS a = PS at *
      generalize printE a = PE at *
      generalize rightD a 0 = R at *
      generalize sameN a b = M at *
      go_enter Tryd.func4, Tryd.ntmps4
      go_wp2_with fail
      refine (HGA.out _ s0.2.2.2).mono ?_; rintro e w1 ⟨rfl, hw1⟩
      have s1 := ss_below s0 hw1
      obtain ⟨⟨c0, c1, c2, c3, c4⟩, ⟨d0, d1, d2, d3, d4⟩, _, _⟩ := id s1
      go_wp2_with fail
      refine (HGB.out _ s1.2.2.2).mono ?_; rintro e w2 ⟨rfl, hw2⟩
      have s2 := ss_below s1 hw2
      clear c0 c1 c2 c3 c4 d0 d1 d2 d3 d4
      obtain ⟨⟨c0, c1, c2, c3, c4⟩, ⟨d0, d1, d2, d3, d4⟩, _, _⟩ := id s2
      go_wp2_with fail
      refine (HCP.out _ s2.2.2.2).mono ?_; rintro e w3 ⟨rfl, hw3⟩
      have s3 := ss_below s2 hw3
      clear c0 c1 c2 c3 c4 d0 d1 d2 d3 d4
      obtain ⟨⟨c0, c1, c2, c3, c4⟩, ⟨d0, d1, d2, d3, d4⟩, _, _⟩ := id s3
      go_wp2_with fail
      refine (HRP.out _ s3.2.2.2).mono ?_; rintro e w4 ⟨rfl, hw4⟩
      have s4 := ss_below s3 hw4
      clear c0 c1 c2 c3 c4 d0 d1 d2 d3 d4 s0 s1 s2 s3 hw1 hw2 hw3 hw4
      have S4 := Lib.hid s4
      clear s4
      go_wp2_with fail
      go_region_held3 (fun w' => (w'.cell? ⟨W.heap.size, 0, none⟩ = some (.int .i64 x0) ∧ w'.cell? ⟨W.heap.size, 1, none⟩ = some (.int .i64 x1) ∧ w'.cell? ⟨W.heap.size, 2, none⟩ = some (.string x2) ∧ w'.cell? ⟨W.heap.size, 3, none⟩ = some (.slice x3 x4 x5) ∧ w'.cell? ⟨W.heap.size, 4, none⟩ = some (.slice x6 x7 x8)) ∧ (w'.cell? ⟨W.heap.size + 1, 0, none⟩ = some (.int .i64 y0) ∧ w'.cell? ⟨W.heap.size + 1, 1, none⟩ = some (.int .i64 y1) ∧ w'.cell? ⟨W.heap.size + 1, 2, none⟩ = some (.string y2) ∧ w'.cell? ⟨W.heap.size + 1, 3, none⟩ = some (.slice y3 y4 y5) ∧ w'.cell? ⟨W.heap.size + 1, 4, none⟩ = some (.slice y6 y7 y8)) ∧ W.heap.size + 1 < w'.heap.size ∧ Below W.heap.size W w') (first | assumption | exact ss_drew S4.out | exact ss_below (by assumption) (by assumption)) (first
        | (go_at_call 14; refine (HR.out _ (by assumption)).mono ?_; rintro e w5 ⟨rfl, hw5⟩)
        | (go_at_call 15; refine (HRR.out _ (by assumption)).mono ?_; rintro e w5 ⟨rfl, hw5⟩)
        | (go_at_call 12; refine (num3_any _ _).mono ?_; rintro e w5 ⟨rfl, hw⟩; obtain rfl : _ = w5 := hw)
        | (go_at_call 16; (with_reducible first | refine (HS1.out _ (by assumption)).mono ?_ | refine (HS3.out _ (by assumption)).mono ?_); rintro e w5 ⟨rfl, hw5⟩)
        | (go_at_call 17; refine (HS2.out _ (by assumption)).mono ?_; rintro e w5 ⟨rfl, hw5⟩)
        | (go_at_call 10; refine (HW2.out _ (by assumption)).mono ?_; rintro e w5 ⟨rfl, hw5⟩))
      all_goals
        go_wp2_with fail
        go_ret
        exact ⟨rfl, (show SS W (.int .i64 x0) (.int .i64 x1) (.string x2) (.slice x3 x4 x5) (.slice x6 x7 x8) (.int .i64 y0) (.int .i64 y1) (.string y2) (.slice y3 y4 y5) (.slice y6 y7 y8) _ by assumption).2.2.2⟩
theorem rightLD_one (a : Nd) (deep : Int) : rightLD [a] deep = rightD a deep := by
  have := rightLD_at [a] 0 a deep rfl
  rw [List.drop_zero] at this
  rw [this, show List.drop (0 + 1) [a] = [] from rfl, rightLD_nil, Bool.and_true]
/-- an array of one value -/
def ndArr (a : Nd) : Nd := .mk 6 0 ⟨#[]⟩ [] [a]
theorem rightD_arr (a : Nd) (deep : Int) : rightD (ndArr a) deep = (decide (deep < 24) && rightD a (deep + 1)) := by
  unfold ndArr
  rw [rightD_eq, rightLD_one]
  simp [bareF]
theorem putU_arr (a : Nd) : putU (ndArr a) = [91] ++ putU a ++ [93] := by
  unfold ndArr
  conv => lhs; unfold putU
  simp [putL]
theorem gN_arr (a : Nd) : gN (ndArr a) = 50 + gN a := by
  unfold ndArr
  conv => lhs; unfold gN
  simp [gL]
  have : ({ data := #[] } : ByteArray).size = 0 := rfl
  omega
theorem size_arr {a : Nd} (h : sizeOk a) : sizeOk (ndArr a) := by
  unfold ndArr sizeOk
  exact ⟨by omega, by decide, by simp, by simp, by unfold sizeOkL; exact ⟨h, by unfold sizeOkL; trivial⟩⟩
mutual
/-- what is right so deep is right less deep -/
theorem right_less : ∀ (n : Nd) (d d' : Int), d' ≤ d → rightD n d = true → rightD n d' = true
  | .mk k num t ks ns, d, d', hd, h => by
    rw [rightD_eq, Bool.and_eq_true] at h ⊢
    refine ⟨h.1, ?_⟩
    have h := h.2
    simp only [Bool.or_eq_true, Bool.and_eq_true, beq_iff_eq, decide_eq_true_eq] at h ⊢
    rcases h with h | h
    · exact .inl h
    · exact .inr ⟨⟨⟨h.1.1.1, by omega⟩, h.1.2⟩, rightL_less ns (d + 1) (d' + 1) (by omega) h.2⟩
theorem rightL_less : ∀ (ns : List Nd) (d d' : Int), d' ≤ d → rightLD ns d = true → rightLD ns d' = true
  | [], d, d', hd, h => rightLD_nil _
  | n :: ns, d, d', hd, h => by
    have a1 := rightLD_at (n :: ns) 0 n d rfl
    have a2 := rightLD_at (n :: ns) 0 n d' rfl
    simp only [List.drop_zero, List.drop_succ_cons, Nat.zero_add] at a1 a2
    rw [h] at a1
    have a1 := (Bool.and_eq_true _ _).mp a1.symm
    rw [a2, right_less n d d' hd a1.1, rightL_less ns d d' hd a1.2]; rfl
end
/-- what CanonWithin asks -/
theorem within_law (a : Nd) : (printE a = 1 → printE (ndArr a) = 1) ∧ (printE a ≠ 1 → printE (ndArr a) ≠ 0 ∨ (printS (ndArr a)).toList = ([91] ++ (printS a).toList) ++ [93]) := by
  rw [printE_eq, printE_eq, printS_eq, printS_eq, putU_arr, rightD_arr]
  cases h : rightD a 0 with
  | false =>
    have : rightD a (0 + 1) = false := by
      cases h1 : rightD a (0 + 1) with
      | false => rfl
      | true => rw [right_less a (0 + 1) 0 (by omega) h1] at h; cases h
    rw [this]
    simp
  | true =>
    refine ⟨fun e => ?_, fun _ => ?_⟩
    · exfalso
      simp only [Bool.true_eq_false, if_false] at e
      split at e <;> omega
    · cases h1 : rightD a (0 + 1) with
      | false => left; simp
      | true =>
        by_cases hl : 65536 < ([91] ++ putU a ++ [93]).length
        · left
          rw [show (decide ((0 : Int) < 24) && true) = true by decide, if_neg (by simp), if_pos hl]; omega
        · right
          have hl2 : ¬ 65536 < (putU a).length := fun h => hl (by simp only [List.length_append, List.length_cons, List.length_nil]; omega)
          rw [show (decide ((0 : Int) < 24) && true) = true by decide, if_neg (by simp), if_neg hl, if_neg (by simp), if_neg hl2]
          simp only [ByteArray.toList_eq]
end Go.Proofs.YtofkdeojabongaaDoor
