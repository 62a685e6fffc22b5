/- The walk of CanonFinds. -/
import Derived.Test.YtofkdeojabongaaDoorClaw2
import Derived.Test.YtofkdeojabongaaDoorRfind
namespace Go.Proofs.YtofkdeojabongaaDoor
open Go.RowKit Go.PlainAid
set_option linter.unusedVariables false
set_option linter.unusedSimpArgs false
set_option maxRecDepth 100000 in
set_option maxHeartbeats 3000000 in
theorem canonFinds_walk (a : Nd) (key : ByteArray) (cs : List Value) (W : World) (ha : NdIs W W.heap.size a cs) (hkey : key.size ≤ maxLen) (hT : TabOK W) :
    Calls Tryd.prog 5 #[.agg cs.toArray, .string key] W fun e W' => e = .returned (.bool true) ∧ Below W.heap.size W W' := by
  have hla := ha.len
  match cs, hla with
  | [v0, v1, v2, v3, v4], _ =>
    obtain ⟨x0, x1, x2, x3, x4, x5, x6, x7, x8, rfl, rfl, rfl, rfl, rfl⟩ := ha.form
    show Calls Tryd.prog 5 #[.agg #[.int .i64 x0, .int .i64 x1, .string x2, .slice x3 x4 x5, .slice x6 x7 x8], .string key] W _
    have HA : Hid (∀ w', Below W.heap.size W w' → NdIs w' W.heap.size a [.int .i64 x0, .int .i64 x1, .string x2, .slice x3 x4 x5, .slice x6 x7 x8]) := fun w' h => ha.below h
    have HGA : Hid (∀ w', Below W.heap.size W w' → Calls Tryd.prog 9 #[.agg #[.int .i64 x0, .int .i64 x1, .string x2, .slice x3 x4 x5, .slice x6 x7 x8]] w' (BoolBel (greatN a) w')) := fun w' h => great_any a _ w' W.heap.size (HA.out w' h) h.size
    have HW : Hid (∀ w', Below W.heap.size W w' → Calls Tryd.prog 10 #[] w' (BoolBel true w')) := fun w' h => awake8_any w' (hT.below h)
    have HNG : Hid (greatN a = false → sizeOk a ∧ gN a ≤ 60000000) := fun h => not_great ha h
    have hA0 : Below W.heap.size W (W.alloc (.cells #[.int .i64 x0, .int .i64 x1, .string x2, .slice x3 x4 x5, .slice x6 x7 x8] 25)) := (Below.refl _ _).alloc (Nat.le_refl _) _
    have hX0 : Blk (W.alloc (.cells #[.int .i64 x0, .int .i64 x1, .string x2, .slice x3 x4 x5, .slice x6 x7 x8] 25)) W.heap.size 25 #[.int .i64 x0, .int .i64 x1, .string x2, .slice x3 x4 x5, .slice x6 x7 x8] := Blk.new W _ _
    unfold maxLen at hkey
    clear ha hT
    have stop : ∀ g : Bool, greatN a = g → (g = true ∨ 300 < key.size ∨ x7 < x4) → Calls Tryd.prog 5 #[.agg #[.int .i64 x0, .int .i64 x1, .string x2, .slice x3 x4 x5, .slice x6 x7 x8], .string key] W fun e W' => e = .returned (.bool true) ∧ Below W.heap.size W W' := by
      intro g hg h
      rw [hg] at HGA
      clear HNG hg
      cases g with
      | true =>
        go_enter Tryd.func5, Tryd.ntmps5
        go_wp2_with fail
        refine (HGA.out _ hA0).mono ?_; rintro e w1 ⟨rfl, hw1⟩
        have hB1 := hA0.trans (hw1.mono hA0.size)
        go_wp2_with fail
        refine (HW.out _ hB1).mono ?_; rintro e w2 ⟨rfl, hw2⟩
        go_wp2_with fail
        go_ret
        exact ⟨rfl, hB1.trans (hw2.mono hB1.size)⟩
      | false =>
        have h : 300 < key.size ∨ x7 < x4 := by simpa using h
        by_cases hk : 300 < key.size
        · clear h
          go_enter Tryd.func5, Tryd.ntmps5
          go_wp2_with fail
          refine (HGA.out _ hA0).mono ?_; rintro e w1 ⟨rfl, hw1⟩
          have hB1 := hA0.trans (hw1.mono hA0.size)
          go_wp2_with fail
          refine (HW.out _ hB1).mono ?_; rintro e w2 ⟨rfl, hw2⟩
          go_wp2_with fail
          go_ret
          exact ⟨rfl, hB1.trans (hw2.mono hB1.size)⟩
        · have h : x7 < x4 := by rcases h with h | h; exact absurd h hk; exact h
          have dk : decide ((300 : Int) < (key.size : Int)) = false := by simp; omega
          have d1 : decide ((x7 : Int) < (x4 : Int)) = true := by simp; omega
          have d2 : decide (x7 < x4) = true := by simp; omega
          go_enter Tryd.func5, Tryd.ntmps5
          go_wp2_with fail
          refine (HGA.out _ hA0).mono ?_; rintro e w1 ⟨rfl, hw1⟩
          have hB1 := hA0.trans (hw1.mono hA0.size)
          obtain ⟨c0, c1, c2, c3, c4⟩ := (hX0.below hw1 (by simp)).cells5
          go_wp2_with fail
          refine (HW.out _ hB1).mono ?_; rintro e w2 ⟨rfl, hw2⟩
          go_wp2_with fail
          go_ret
          exact ⟨rfl, hB1.trans (hw2.mono hB1.size)⟩
    cases hga : greatN a with
    | true => exact stop true hga (.inl rfl)
    | false =>
      by_cases hk : 300 < key.size
      · exact stop false hga (.inr (.inl hk))
      by_cases hkk : x7 < x4
      · exact stop false hga (.inr (.inr hkk))
      have hza := HNG.out hga
      rw [hga] at HGA
      have dk : decide ((300 : Int) < (key.size : Int)) = false := by simp; omega
      have d1 : decide ((x7 : Int) < (x4 : Int)) = false := by simp; omega
      have d2 : decide (x7 < x4) = false := by simp; omega
      have HF : Hid (∀ w', Below W.heap.size W w' → Calls Tryd.prog 18 #[.agg #[.int .i64 x0, .int .i64 x1, .string x2, .slice x3 x4 x5, .slice x6 x7 x8], .string key] w' (FindP (findN a key) w')) := fun w' h => cFind_any a key _ w' W.heap.size (HA.out w' h) h.size hza.1
      have HRF : Hid (∀ w', Below W.heap.size W w' → Calls Tryd.prog 19 #[.agg #[.int .i64 x0, .int .i64 x1, .string x2, .slice x3 x4 x5, .slice x6 x7 x8], .string key] w' (RfindP (findN a key) W.heap.size w')) := fun w' h => rFind_any a key _ w' W.heap.size (HA.out w' h) h.size
      have HS : Hid (∀ (n : Nd) (cs ds : List Value) (w' : World), NdIs w' w'.heap.size n cs → NdIs w' w'.heap.size n ds → Calls Tryd.prog 17 #[.agg cs.toArray, .agg ds.toArray] w' (BoolBel true w')) := fun n cs ds w' h1 h2 => by
        have := rSame_any n.count n n cs ds w' w'.heap.size (Nat.le_refl _) h1 h2 (Nat.le_refl _)
        rw [sameN_refl] at this; exact this
      clear stop hza HNG hga hk hkk HA
      generalize findN a key = r at *
      go_enter Tryd.func5, Tryd.ntmps5
      go_wp2_with fail
      refine (HGA.out _ hA0).mono ?_; rintro e w1 ⟨rfl, hw1⟩
      have hB1 := hA0.trans (hw1.mono hA0.size)
      have hX1 := hX0.below hw1 (by simp)
      obtain ⟨c0, c1, c2, c3, c4⟩ := hX1.cells5
      go_wp2_with fail
      refine (HF.out _ hB1).mono ?_; rintro e w2 ⟨g0, g1, g2, g3, g4, g5, g6, g7, g8, rfl, hn2, hw2⟩
      have hB2 := hB1.trans (hw2.mono hB1.size)
      have hX2 := hX1.below hw2 hX1.lt
      have N2 : Hid (NdIs (w2.alloc (.cells #[.int .i64 g0, .int .i64 g1, .string g2, .slice g3 g4 g5, .slice g6 g7 g8] 25)) w2.heap.size (r.getD (nd0 0)) [.int .i64 g0, .int .i64 g1, .string g2, .slice g3 g4 g5, .slice g6 g7 g8]) := (NdIn.is (fun b hb => hb.2) _ _ hn2).below ((Below.refl _ _).alloc (Nat.le_refl _) _)
      have hP2 : Blk (w2.alloc (.cells #[.int .i64 g0, .int .i64 g1, .string g2, .slice g3 g4 g5, .slice g6 g7 g8] 25)) w2.heap.size 25 #[.int .i64 g0, .int .i64 g1, .string g2, .slice g3 g4 g5, .slice g6 g7 g8] := Blk.new w2 _ _
      have hB2a := hB2.alloc hB2.size (.cells #[.int .i64 g0, .int .i64 g1, .string g2, .slice g3 g4 g5, .slice g6 g7 g8] 25)
      clear c0 c1 c2 c3 c4 hn2
      have hzz : W.heap.size < w2.heap.size := hX2.lt
      obtain ⟨c0, c1, c2, c3, c4⟩ := hX2.cells5
      go_wp2_with fail
      refine (HRF.out _ hB2a).mono ?_; rintro e w3 ⟨h0, h1, h2, h3, h4, h5, h6, h7, h8, rfl, hn3, hw3⟩
      have hB3 := hB2a.trans (hw3.mono hB2a.size)
      have hP3 := hP2.below hw3 hP2.lt
      have hz3 : W.heap.size ≤ w3.heap.size := hB3.size
      have hz2 : w2.heap.size ≤ w3.heap.size := by have := hw3.size; simp at this; omega
      have M3 : Hid (NdIs (w3.alloc (.cells #[.int .i64 h0, .int .i64 h1, .string h2, .slice h3 h4 h5, .slice h6 h7 h8] 25)) (w3.alloc (.cells #[.int .i64 h0, .int .i64 h1, .string h2, .slice h3 h4 h5, .slice h6 h7 h8] 25)).heap.size (r.getD (nd0 0)) [.int .i64 h0, .int .i64 h1, .string h2, .slice h3 h4 h5, .slice h6 h7 h8]) := NdIs.more (by simp; omega) _ _ (hn3.below (((Below.refl w3.heap.size w3).alloc (Nat.le_refl _) _).mono hz3))
      have L3 : Hid (NdIs (w3.alloc (.cells #[.int .i64 h0, .int .i64 h1, .string h2, .slice h3 h4 h5, .slice h6 h7 h8] 25)) (w3.alloc (.cells #[.int .i64 h0, .int .i64 h1, .string h2, .slice h3 h4 h5, .slice h6 h7 h8] 25)).heap.size (r.getD (nd0 0)) [.int .i64 g0, .int .i64 g1, .string g2, .slice g3 g4 g5, .slice g6 g7 g8]) := NdIs.more (by simp; omega) _ _ ((N2.out.below (hw3.mono (by simp))).below (((Below.refl w3.heap.size w3).alloc (Nat.le_refl _) _).mono hz2))
      have hP4 := hP3.alloc (.cells #[.int .i64 h0, .int .i64 h1, .string h2, .slice h3 h4 h5, .slice h6 h7 h8] 25)
      have hB3a := hB3.alloc hB3.size (.cells #[.int .i64 h0, .int .i64 h1, .string h2, .slice h3 h4 h5, .slice h6 h7 h8] 25)
      clear c0 c1 c2 c3 c4 hn3
      obtain ⟨p0, p1, p2, p3, p4⟩ := hP3.cells5
      have hz4 : w2.heap.size < w3.heap.size := hP3.lt
      go_wp2_with fail
      refine (HS.out _ _ _ _ L3.out M3.out : Calls _ _ _ _ _).mono ?_; rintro e w4 ⟨rfl, hw4⟩
      have hB4 := hB3a.trans (hw4.mono hB3a.size)
      go_wp2_with fail
      refine (HW.out _ hB4).mono ?_; rintro e w5 ⟨rfl, hw5⟩
      go_wp2_with fail
      go_ret
      exact ⟨rfl, hB4.trans (hw5.mono hB4.size)⟩
end Go.Proofs.YtofkdeojabongaaDoor
