/- The walk of the reference's Print. -/
import Derived.Test.YtofkdeojabongaaDoorRput
namespace Go.Proofs.YtofkdeojabongaaDoor
open Go.RowKit Go.PlainAid
set_option linter.unusedVariables false
set_option linter.unusedSimpArgs false
theorem OwnU.form {w : World} {B : Nat} {v : Value} {l : List UInt8} (h : OwnU w B v l) : ∃ A c, v = .slice A l.length c := by
  rcases h.2 with ⟨rfl, hx⟩ | ⟨g, cap, cur, rfl, _⟩
  · rw [nums_len] at hx; rw [hx]; exact ⟨_, _, rfl⟩
  · rw [nums_len]; exact ⟨_, _, rfl⟩
set_option maxRecDepth 100000 in
set_option maxHeartbeats 1000000 in
theorem rPrint_any (n : Nd) (cs : List Value) (w : World) (B : Nat) (hn : NdIs w B n cs) (hB : B ≤ w.heap.size) (hg : rightD n 0 = true → goodN n) (hs : gN n ≤ 10000000000000) :
    Calls Tryd.prog 13 #[.agg cs.toArray] w (StrErr (printS n) (printE n) w) := by
  have hl := hn.len
  have hW := Below.refl w.heap.size w
  match cs, hl with
  | [v0, v1, v2, v3, v4], _ =>
    have HR : Hid (∀ w', Below w.heap.size w w' → Calls Tryd.prog 15 #[.agg #[v0, v1, v2, v3, v4]] w' (BoolBel (rightD n 0) w')) := fun w' hb =>
      rRight_any n [v0, v1, v2, v3, v4] w' B (hn.below (hb.mono hB)) (by have := hb.size; omega)
    have HN : Hid (∀ w', rightD n 0 = true → Below w.heap.size w w' → PutC w'.heap.size (.slice none 0 0) #[v0, v1, v2, v3, v4] (putU n) w') := fun w' hr hb => by
      have := rputn_any n.count n (Nat.le_refl _) w'.heap.size [v0, v1, v2, v3, v4] (.slice none 0 0) [] w' 0 (NdIs.more (Nat.le_trans hB hb.size) _ _ (hn.below (hb.mono hB))) (OwnU.nil _ _) (Nat.le_refl _) (hg hr) hr (by simp; omega)
      simpa using this
    have HPS : Hid (printS n = if rightD n 0 = false then ⟨#[]⟩ else if 65536 < (putU n).length then ⟨#[]⟩ else ⟨(putU n).toArray⟩) := printS_eq n
    have HPE : Hid (printE n = if rightD n 0 = false then 1 else if 65536 < (putU n).length then 2 else 0) := printE_eq n
    have hol : rightD n 0 = true → (putU n).length ≤ 10000000000000 := fun hr => by have := putU_le n (hg hr); omega
    obtain ⟨x0, x1, x2, x3, x4, x5, x6, x7, x8, rfl, rfl, rfl, rfl, rfl⟩ := hn.form
    show Calls Tryd.prog 13 #[.agg #[_, _, _, _, _]] w (StrErr _ _ w)
    clear hn hg hs
    have hA : Below w.heap.size w (w.alloc (.cells #[.int .i64 x0, .int .i64 x1, .string x2, .slice x3 x4 x5, .slice x6 x7 x8] 25)) := hW.alloc hW.size _
    generalize printS n = S at *
    generalize printE n = E at *
    generalize rightD n 0 = R at *
    generalize putU n = O at *
    cases R with
    | false =>
      have e1 : Hid (S = ⟨#[]⟩) := by show _ = _; rw [HPS.out, if_pos rfl]
      have e2 : Hid (E = 1) := by show _ = _; rw [HPE.out, if_pos rfl]
      clear HPS HPE
      go_enter Tryd.func13, Tryd.ntmps13
      go_wp2_with fail
      refine (HR.out _ hA).mono ?_; rintro e w1 ⟨rfl, hw1⟩
      go_wp2_with fail
      go_ret2
      exact ⟨by rw [e1.out, e2.out]; rfl, hA.trans (hw1.mono (by simp))⟩
    | true =>
      have hol : O.length ≤ 10000000000000 := hol (by trivial)
      have main : ∀ b : Bool, decide (65536 < O.length) = b → Hid (S = if b = true then ⟨#[]⟩ else ⟨O.toArray⟩) → Hid (E = if b = true then 2 else 0) → Calls Tryd.prog 13 #[.agg #[.int .i64 x0, .int .i64 x1, .string x2, .slice x3 x4 x5, .slice x6 x7 x8]] w (StrErr S E w) := by
        intro b hb e1 e2
        clear HPS HPE
        have hb2 : decide ((65536 : Int) < (O.length : Int)) = b := by
          rw [← hb]
          by_cases h : 65536 < O.length
          · rw [decide_eq_true h, decide_eq_true (by omega)]
          · rw [decide_eq_false h, decide_eq_false (by omega)]
        have HB2 := Lib.hid hb2
        clear hb hb2
        go_enter Tryd.func13, Tryd.ntmps13
        go_wp2_with fail
        refine (HR.out _ hA).mono ?_; rintro e w1 ⟨rfl, hw1⟩
        have hW1 : Below w.heap.size w w1 := hA.trans (hw1.mono (by simp))
        have hx1 : Blk w1 w.heap.size 25 #[.int .i64 x0, .int .i64 x1, .string x2, .slice x3 x4 x5, .slice x6 x7 x8] := (Blk.new w _ _).below hw1 (by simp)
        have c0 := hx1.cell 0
        have c1 := hx1.cell 1
        have c2 := hx1.cell 2
        have c3 := hx1.cell 3
        have c4 := hx1.cell 4
        simp at c0 c1 c2 c3 c4
        clear hx1
        go_wp2_with fail
        have HNC := HN.out w1 (by trivial) hW1
        refine (HNC : Calls _ _ _ _ _).mono ?_; rintro e w2 ⟨v2, rfl, n2, k2⟩
        obtain ⟨A, c, rfl⟩ := n2.form
        have hcv := n2.conv
        have hW2 := hW1.trans (k2.1.mono hW1.size)
        clear n2 HNC c0 c1 c2 c3 c4
        cases b with
        | true =>
          have hq := HB2.out
          go_wp2_with fail
          go_ret2
          exact ⟨by rw [e1.out, e2.out]; rfl, hW2⟩
        | false =>
          have hq := HB2.out
          go_wp2_with fail
          go_ret2
          exact ⟨by rw [e1.out, e2.out]; rfl, hW2⟩
      by_cases hb : 65536 < O.length
      · exact main true (decide_eq_true hb) (by show _ = _; rw [HPS.out, if_neg (by simp), if_pos hb]; rfl) (by show _ = _; rw [HPE.out, if_neg (by simp), if_pos hb]; rfl)
      · exact main false (decide_eq_false hb) (by show _ = _; rw [HPS.out, if_neg (by simp), if_neg hb]; rfl) (by show _ = _; rw [HPE.out, if_neg (by simp), if_neg hb]; rfl)
end Go.Proofs.YtofkdeojabongaaDoor
