/- The walk of CanonWithin. -/
import Derived.Test.YtofkdeojabongaaDoorClaw1
namespace Go.Proofs.YtofkdeojabongaaDoor
open Go.RowKit Go.PlainAid
set_option linter.unusedVariables false
set_option linter.unusedSimpArgs false
/-- nodes in an array of the call's own -/
theorem arr_is {w : World} {B : Nat} {a : Nd} {v0 v1 v2 v3 v4 : Value} (ha : NdIs w B a [v0, v1, v2, v3, v4]) (hB : B ≤ w.heap.size) :
    NdIs (w.alloc (.cells #[v0, v1, v2, v3, v4] 25)) (w.heap.size + 1) (ndArr a) [.int .i64 6, .int .i64 0, .string ⟨#[]⟩, .slice none 0 0, .slice (some ⟨w.heap.size, 0, none⟩) 1 1] := by
  unfold ndArr NdIs
  refine ⟨none, 0, some ⟨w.heap.size, 0, none⟩, 1, [v0, v1, v2, v3, v4], rfl, Reads.none_, ⟨rfl, fun _ => ⟨_, rfl, by simp, fun j u hj => ?_⟩⟩, ?_, by unfold I64; omega, by unfold I64; omega, by (show (0 : Nat) ≤ maxLen); exact Nat.zero_le _, by simp, by simp [maxLen], by simp [maxLen]⟩
  · have e : (⟨w.heap.size, 0, none⟩ : Addr).add j = ⟨w.heap.size, j, none⟩ := by unfold Addr.add; split <;> simp_all
    rw [e, World.cell?_alloc_mark]
    simpa using hj
  · unfold NdsIs
    refine ⟨[v0, v1, v2, v3, v4], [], by simp, ?_, by unfold NdsIs; rfl⟩
    exact NdIs.more (by omega) _ _ (ha.below (((Below.refl w.heap.size w).alloc (Nat.le_refl _) _).mono hB))
theorem printS_le (a : Nd) : (printS a).size ≤ 65536 := by
  rw [printS_eq]
  split
  · exact (by decide : (0 : Nat) ≤ 65536)
  · split
    · exact (by decide : (0 : Nat) ≤ 65536)
    · rename_i h
      show (putU a).toArray.size ≤ 65536
      simp; omega
set_option maxRecDepth 100000 in
set_option maxHeartbeats 3000000 in
theorem canonWithin_walk (a : Nd) (cs : List Value) (W : World) (ha : NdIs W W.heap.size a cs) (hT : TabOK W) :
    Calls Tryd.prog 3 #[.agg cs.toArray] W fun e W' => e = .returned (.bool true) ∧ Below W.heap.size W W' := by
  have hla := ha.len
  match cs, hla with
  | [v0, v1, v2, v3, v4], _ =>
    obtain ⟨x0, x1, x2, x3, x4, x5, x6, x7, x8, rfl, rfl, rfl, rfl, rfl⟩ := ha.form
    show Calls Tryd.prog 3 #[.agg #[.int .i64 x0, .int .i64 x1, .string x2, .slice x3 x4 x5, .slice x6 x7 x8]] W _
    have HA : Hid (∀ w', Below W.heap.size W w' → NdIs w' W.heap.size a [.int .i64 x0, .int .i64 x1, .string x2, .slice x3 x4 x5, .slice x6 x7 x8]) := fun w' h => ha.below h
    have HGA : Hid (∀ w', Below W.heap.size W w' → Calls Tryd.prog 9 #[.agg #[.int .i64 x0, .int .i64 x1, .string x2, .slice x3 x4 x5, .slice x6 x7 x8]] w' (BoolBel (greatN a) w')) := fun w' h => great_any a _ w' W.heap.size (HA.out w' h) h.size
    have HW : Hid (∀ w', Below W.heap.size W w' → Calls Tryd.prog 10 #[] w' (BoolBel true w')) := fun w' h => awake8_any w' (hT.below h)
    have hTab : Hid (∀ w', Below W.heap.size W w' → TabAt W.heap.size w') := fun w' h => ⟨W, hT, Nat.le_refl _, h⟩
    have HNG : Hid (greatN a = false → sizeOk a ∧ gN a ≤ 60000000) := fun h => not_great ha h
    have hW0 := Below.refl W.heap.size W
    have hA0 : Below W.heap.size W (W.alloc (.cells #[.int .i64 x0, .int .i64 x1, .string x2, .slice x3 x4 x5, .slice x6 x7 x8] 25)) := hW0.alloc hW0.size _
    have hX0 : Blk (W.alloc (.cells #[.int .i64 x0, .int .i64 x1, .string x2, .slice x3 x4 x5, .slice x6 x7 x8] 25)) W.heap.size 25 #[.int .i64 x0, .int .i64 x1, .string x2, .slice x3 x4 x5, .slice x6 x7 x8] := Blk.new W _ _
    clear ha hT
    generalize hga : greatN a = ga at *
    cases ga with
    | true =>
      go_enter Tryd.func3, Tryd.ntmps3
      go_wp2_with fail
      refine (HGA.out _ hA0).mono ?_; rintro e w1 ⟨rfl, hw1⟩
      have hB1 := hA0.trans (hw1.mono hA0.size)
      go_wp2_with fail
      refine (HW.out _ hB1).mono ?_; rintro e w2 ⟨rfl, hw2⟩
      go_wp2_with fail
      go_ret
      exact ⟨rfl, hB1.trans (hw2.mono hB1.size)⟩
    | false =>
      have hza := HNG.out (by trivial)
      have HCP : Hid (∀ w', Below W.heap.size W w' → Calls Tryd.prog 11 #[.agg #[.int .i64 x0, .int .i64 x1, .string x2, .slice x3 x4 x5, .slice x6 x7 x8]] w' (StrErr (printS a) (printE a) w')) := fun w' h =>
        CPrint_any a _ w' W.heap.size (HA.out w' h) h.size (hTab.out w' h) (fun hr => good_of a 0 hza.1 hr) (by have := hza.2; omega)
      have HCQ : Hid (∀ w', Below W.heap.size W w' → Calls Tryd.prog 11 #[.agg #[.int .i64 6, .int .i64 0, .string ⟨#[]⟩, .slice none 0 0, .slice (some ⟨w'.heap.size, 0, none⟩) 1 1]] (w'.alloc (.cells #[.int .i64 x0, .int .i64 x1, .string x2, .slice x3 x4 x5, .slice x6 x7 x8] 25)) (StrErr (printS (ndArr a)) (printE (ndArr a)) (w'.alloc (.cells #[.int .i64 x0, .int .i64 x1, .string x2, .slice x3 x4 x5, .slice x6 x7 x8] 25)))) := fun w' h =>
        CPrint_any (ndArr a) _ (w'.alloc (.cells #[.int .i64 x0, .int .i64 x1, .string x2, .slice x3 x4 x5, .slice x6 x7 x8] 25)) (w'.heap.size + 1) (arr_is (HA.out w' h) h.size) (by simp)
          (by obtain ⟨w0, h1, h2, h3⟩ := hTab.out w' h; exact ⟨w0, h1, by have := h.size; omega, h3.alloc (by have := h.size; omega) _⟩)
          (fun hr => good_of _ 0 (size_arr hza.1) hr) (by rw [gN_arr]; have := hza.2; omega)
      have HL := Lib.hid (within_law a)
      have hps : (printS a).size ≤ 65536 := printS_le a
      clear hza HNG hTab HA hga
      generalize printS a = PS at *
      generalize printE a = PE at *
      generalize printS (ndArr a) = QS at *
      generalize printE (ndArr a) = QE at *
      have main : ∀ (b1 b2 b3 : Bool), (PE == 1) = b1 → (QE == 1) = b2 → (QE != 0) = b3 → (b1 = true → b2 = true) → (b1 = false → b3 = false → (QS.toList == ((⟨#[91]⟩ : ByteArray) ++ PS ++ ⟨#[93]⟩).toList) = true) →
          Calls Tryd.prog 3 #[.agg #[.int .i64 x0, .int .i64 x1, .string x2, .slice x3 x4 x5, .slice x6 x7 x8]] W fun e W' => e = .returned (.bool true) ∧ Below W.heap.size W W' := by
        intro b1 b2 b3 e1 e2 e3 l1 l2
        have L1 := Lib.hid l1
        have L2 := Lib.hid l2
        clear l1 l2
        cases b1 with
        | true =>
          obtain rfl := L1.out rfl
          clear e3 L2
          go_enter Tryd.func3, Tryd.ntmps3
          go_wp2_with fail
          refine (HGA.out _ hA0).mono ?_; rintro e w1 ⟨rfl, hw1⟩
          have hB1 := hA0.trans (hw1.mono hA0.size)
          have hX1 := hX0.below hw1 (by simp)
          obtain ⟨c0, c1, c2, c3, c4⟩ := hX1.cells5
          go_wp2_with fail
          refine (HCP.out _ hB1).mono ?_; rintro e w2 ⟨rfl, hw2⟩
          have hB2 := hB1.trans (hw2.mono hB1.size)
          have hX2 := hX1.below hw2 hX1.lt
          clear c0 c1 c2 c3 c4
          obtain ⟨c0, c1, c2, c3, c4⟩ := hX2.cells5
          go_wp2_with fail
          refine (HCQ.out _ hB2).mono ?_; rintro e w3 ⟨rfl, hw3⟩
          have hB3 := (hB2.alloc hB2.size _).trans (hw3.mono (by simp; have := hB2.size; omega))
          go_wp2_with fail
          refine (num3_any _ _).mono ?_; rintro e w4 ⟨rfl, hw⟩; obtain rfl : _ = w4 := hw
          go_wp2_with fail
          refine (num3_any _ _).mono ?_; rintro e w4 ⟨rfl, hw⟩; obtain rfl : _ = w4 := hw
          go_wp2_with fail
          refine (HW.out _ hB3).mono ?_; rintro e w5 ⟨rfl, hw5⟩
          go_wp2_with fail
          go_ret
          exact ⟨rfl, hB3.trans (hw5.mono hB3.size)⟩
        | false =>
          have hl2 := L2.out rfl
          have HL2 := Lib.hid hl2
          clear hl2 L1 L2 e2
          cases b3 with
          | true =>
            go_enter Tryd.func3, Tryd.ntmps3
            go_wp2_with fail
            refine (HGA.out _ hA0).mono ?_; rintro e w1 ⟨rfl, hw1⟩
            have hB1 := hA0.trans (hw1.mono hA0.size)
            have hX1 := hX0.below hw1 (by simp)
            obtain ⟨c0, c1, c2, c3, c4⟩ := hX1.cells5
            go_wp2_with fail
            refine (HCP.out _ hB1).mono ?_; rintro e w2 ⟨rfl, hw2⟩
            have hB2 := hB1.trans (hw2.mono hB1.size)
            have hX2 := hX1.below hw2 hX1.lt
            clear c0 c1 c2 c3 c4
            obtain ⟨c0, c1, c2, c3, c4⟩ := hX2.cells5
            go_wp2_with fail
            refine (HCQ.out _ hB2).mono ?_; rintro e w3 ⟨rfl, hw3⟩
            have hB3 := (hB2.alloc hB2.size _).trans (hw3.mono (by simp; have := hB2.size; omega))
            go_wp2_with fail
            refine (num3_any _ _).mono ?_; rintro e w4 ⟨rfl, hw⟩; obtain rfl : _ = w4 := hw
            go_wp2_with fail
            refine (num3_any _ _).mono ?_; rintro e w4 ⟨rfl, hw⟩; obtain rfl : _ = w4 := hw
            go_wp2_with fail
            refine (HW.out _ hB3).mono ?_; rintro e w5 ⟨rfl, hw5⟩
            go_wp2_with fail
            go_ret
            exact ⟨rfl, hB3.trans (hw5.mono hB3.size)⟩
          | false =>
            have hs := HL2.out rfl
            go_enter Tryd.func3, Tryd.ntmps3
            go_wp2_with fail
            refine (HGA.out _ hA0).mono ?_; rintro e w1 ⟨rfl, hw1⟩
            have hB1 := hA0.trans (hw1.mono hA0.size)
            have hX1 := hX0.below hw1 (by simp)
            obtain ⟨c0, c1, c2, c3, c4⟩ := hX1.cells5
            go_wp2_with fail
            refine (HCP.out _ hB1).mono ?_; rintro e w2 ⟨rfl, hw2⟩
            have hB2 := hB1.trans (hw2.mono hB1.size)
            have hX2 := hX1.below hw2 hX1.lt
            clear c0 c1 c2 c3 c4
            obtain ⟨c0, c1, c2, c3, c4⟩ := hX2.cells5
            go_wp2_with fail
            refine (HCQ.out _ hB2).mono ?_; rintro e w3 ⟨rfl, hw3⟩
            have hB3 := (hB2.alloc hB2.size _).trans (hw3.mono (by simp; have := hB2.size; omega))
            go_wp2_with fail
            refine (num3_any _ _).mono ?_; rintro e w4 ⟨rfl, hw⟩; obtain rfl : _ = w4 := hw
            go_wp2_with fail
            refine (num3_any _ _).mono ?_; rintro e w4 ⟨rfl, hw⟩; obtain rfl : _ = w4 := hw
            go_wp2_with fail
            refine (HW.out _ hB3).mono ?_; rintro e w5 ⟨rfl, hw5⟩
            go_wp2_with fail
            go_ret
            exact ⟨rfl, hB3.trans (hw5.mono hB3.size)⟩
      refine main _ _ _ rfl rfl rfl (fun h => ?_) (fun h1 h2 => ?_)
      · have := HL.out.1 (by simpa using h)
        simp [this]
      · have h3 := HL.out.2 (by simpa using h1)
        rcases h3 with h3 | h3
        · simp [h3] at h2
        · rw [beq_iff_eq, h3]
          simp [ByteArray.toList_eq]
end Go.Proofs.YtofkdeojabongaaDoor
