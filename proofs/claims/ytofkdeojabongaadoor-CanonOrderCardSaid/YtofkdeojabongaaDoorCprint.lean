/- The walk of canon's Print. -/
import Derived.Test.YtofkdeojabongaaDoorRight2
namespace Go.Proofs.YtofkdeojabongaaDoor
open Go.RowKit Go.PlainAid
set_option linter.unusedVariables false
set_option linter.unusedSimpArgs false
noncomputable def printS (n : Nd) : ByteArray := if rightD n 0 = false then ⟨#[]⟩ else if 65536 < (outN n []).length then ⟨#[]⟩ else ⟨(outN n []).toArray⟩
noncomputable def printE (n : Nd) : Int := if rightD n 0 = false then 1 else if 65536 < (outN n []).length then 2 else 0
def StrErr (s : ByteArray) (k : Int) (w : World) (e : Ending) (w' : World) : Prop := e = .returned (.tuple #[.string s, .int .i64 k]) ∧ Below w.heap.size w w'
theorem decDigits_ne (u : Nat) : Lib.decDigits u ≠ [] := by
  unfold Lib.decDigits
  split <;> simp
theorem itoa_ne (n : Int) : Lib.itoa n ≠ [] := by
  unfold Lib.itoa
  split
  · simp
  · exact decDigits_ne _
theorem outN_ne (n : Nd) : outN n [] ≠ [] := by
  cases n
  unfold outN
  rw [if_neg (by simp)]
  repeat' split
  all_goals first | (simp; done) | (simp only [List.nil_append]; exact itoa_ne _) | (simp only [List.nil_append]; unfold quoteU; simp)
theorem TabAt.more {B B' : Nat} {w : World} (h : TabAt B w) (hB : B ≤ B') : TabAt B' w := by
  obtain ⟨w0, h1, h2, h3⟩ := h
  exact ⟨w0, h1, by omega, h3⟩
theorem Bld.fresh (w : World) (B : Nat) (hB : B ≤ w.heap.size) : Bld B w.heap.size (Lib.byteCells []) (w.alloc (.cells #[.pointer none, .slice none 0 0] 48)) := by
  refine .inl ⟨hB, .slice none 0 0, heap_alloc_new w _, ?_, by simp [Value.ownBlock]⟩
  exact World.ownsRowF_of (World.ownsRow_nil _ B 5 1)
set_option maxRecDepth 100000 in
set_option maxHeartbeats 1000000 in
theorem CPrint_any (n : Nd) (cs : List Value) (w : World) (B : Nat) (hn : NdIs w B n cs) (hB : B ≤ w.heap.size) (hT : TabAt B w) (hg : rightD n 0 = true → goodN n) (hs : gN n ≤ 10000000000000) :
    Calls Tryd.prog 11 #[.agg cs.toArray] w (StrErr (printS n) (printE n) w) := by
  have hl := hn.len
  have hW := Below.refl w.heap.size w
  match cs, hl with
  | [v0, v1, v2, v3, v4], _ =>
    have HR : Hid (∀ w', Below w.heap.size w w' → Calls Tryd.prog 14 #[.agg #[v0, v1, v2, v3, v4]] w' (BoolBel (rightD n 0) w')) := fun w' hb =>
      CRight_any n [v0, v1, v2, v3, v4] w' B (hn.below (hb.mono hB)) (by have := hb.size; omega)
    have HN : Hid (∀ w' b, rightD n 0 = true → Below w.heap.size w w' → Bld w.heap.size b (Lib.byteCells []) w' → NodeC w.heap.size b #[v0, v1, v2, v3, v4] (outN n []) w') := fun w' b hr hb hbl =>
      Wnode_any n.count n (Nat.le_refl _) w.heap.size b [v0, v1, v2, v3, v4] [] w' (NdIs.more hB _ _ (hn.below (hb.mono hB))) hbl
        (by obtain ⟨w0, h1, h2, h3⟩ := hT; exact ⟨w0, h1, by omega, h3.trans (hb.mono (by omega))⟩) hb.size (hg hr) (by simp; omega)
    have hne := outN_ne n
    have HPS : Hid (printS n = if rightD n 0 = false then ⟨#[]⟩ else if 65536 < (outN n []).length then ⟨#[]⟩ else ⟨(outN n []).toArray⟩) := rfl
    have HPE : Hid (printE n = if rightD n 0 = false then 1 else if 65536 < (outN n []).length then 2 else 0) := rfl
    obtain ⟨x0, x1, x2, x3, x4, x5, x6, x7, x8, rfl, rfl, rfl, rfl, rfl⟩ := hn.form
    show Calls Tryd.prog 11 #[.agg #[_, _, _, _, _]] w (StrErr _ _ w)
    clear hn hT hg hs
    have hA : Below w.heap.size w (w.alloc (.cells #[.int .i64 x0, .int .i64 x1, .string x2, .slice x3 x4 x5, .slice x6 x7 x8] 25)) := hW.alloc hW.size _
    have HNE := Lib.hid hne
    clear hne
    generalize printS n = S at *
    generalize printE n = E at *
    generalize rightD n 0 = R at *
    generalize outN n [] = O at *
    cases R with
    | false =>
      have e1 : Hid (S = ⟨#[]⟩) := by show _ = _; rw [HPS.out, if_pos rfl]
      have e2 : Hid (E = 1) := by show _ = _; rw [HPE.out, if_pos rfl]
      clear HPS HPE
      go_enter Tryd.func11, Tryd.ntmps11
      go_wp2_with fail
      refine (HR.out _ hA).mono ?_; rintro e w1 ⟨rfl, hw1⟩
      go_wp2_with fail
      go_ret2
      exact ⟨by rw [e1.out, e2.out]; rfl, hA.trans (hw1.mono (by simp))⟩
    | true =>
      have hdec : decide (65536 < O.length) = true ∨ decide (65536 < O.length) = false := by cases decide (65536 < O.length) <;> simp
      have main : ∀ b : Bool, decide (65536 < O.length) = b → Hid (S = if b = true then ⟨#[]⟩ else ⟨O.toArray⟩) → Hid (E = if b = true then 2 else 0) → Calls Tryd.prog 11 #[.agg #[.int .i64 x0, .int .i64 x1, .string x2, .slice x3 x4 x5, .slice x6 x7 x8]] w (StrErr S E w) := by
        intro b hb e1 e2
        have HF : Hid (∀ w' c, Bld w.heap.size c (Lib.byteCells O) w' → Calls Tryd.prog 23 #[.pointer (some ⟨c, 0, none⟩)] w' fun e w'' => e = .returned (.bool b) ∧ w' = w'') := fun w' c h => by
          have := full_any w.heap.size c O w' h
          rw [hb] at this; exact this
        clear HPS HPE hdec hb
        go_enter Tryd.func11, Tryd.ntmps11
        go_wp2_with fail
        refine (HR.out _ hA).mono ?_; rintro e w1 ⟨rfl, hw1⟩
        have hW1 : Below w.heap.size w w1 := hA.trans (hw1.mono (by simp))
        have hx1 : Blk w1 w.heap.size 25 #[.int .i64 x0, .int .i64 x1, .string x2, .slice x3 x4 x5, .slice x6 x7 x8] := (Blk.new w _ _).below hw1 (by simp)
        have hz1 : w.heap.size < w1.heap.size := by have := hw1.size; simp at this; omega
        have hxa : Hid (Blk (w1.alloc (.cells #[.pointer none, .slice none 0 0] 48)) w.heap.size 25 #[.int .i64 x0, .int .i64 x1, .string x2, .slice x3 x4 x5, .slice x6 x7 x8]) := hx1.alloc _
        have c0 := hx1.cell 0
        have c1 := hx1.cell 1
        have c2 := hx1.cell 2
        have c3 := hx1.cell 3
        have c4 := hx1.cell 4
        simp at c0 c1 c2 c3 c4
        have HB := Lib.hid (Bld.fresh w1 w.heap.size (by omega))
        have HWA := Lib.hid (hW1.alloc hW1.size (.cells #[.pointer none, .slice none 0 0] 48))
        clear hx1
        go_wp2_with fail
        have HNC := HN.out _ _ (by trivial) HWA.out HB.out
        refine (HNC : Calls _ _ _ _ _).mono ?_; rintro e w2 ⟨rfl, n2, k2⟩
        have N2 := Lib.hid n2
        have hW2 := HWA.out.trans k2.1
        clear n2 HNC c0 c1 c2 c3 c4
        go_wp2_with fail
        refine (HF.out _ _ N2.out).mono ?_; rintro e w3 ⟨rfl, hw⟩; obtain rfl : _ = w3 := hw
        cases b with
        | true =>
          go_wp2_with fail
          go_ret2
          exact ⟨by rw [e1.out, e2.out]; rfl, hW2⟩
        | false =>
          go_wp2_with fail
          refine (String_any w.heap.size _ O _ N2.out HNE.out).mono ?_; rintro e w4 ⟨rfl, hw4⟩
          go_wp2_with fail
          go_ret2
          exact ⟨by rw [e1.out, e2.out]; rfl, hW2.trans hw4⟩
      rcases hdec with hb | hb
      · exact main true hb (by show _ = _; rw [HPS.out, if_neg (by simp), if_pos (of_decide_eq_true hb)]; rfl) (by show _ = _; rw [HPE.out, if_neg (by simp), if_pos (of_decide_eq_true hb)]; rfl)
      · exact main false hb (by show _ = _; rw [HPS.out, if_neg (by simp), if_neg (of_decide_eq_false hb)]; rfl) (by show _ = _; rw [HPE.out, if_neg (by simp), if_neg (of_decide_eq_false hb)]; rfl)
end Go.Proofs.YtofkdeojabongaaDoor
