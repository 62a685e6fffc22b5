/- The walk of the reference's right: the induction. -/
import Derived.Test.YtofkdeojabongaaDoorRref2
import Derived.Test.YtofkdeojabongaaDoorRref3
namespace Go.Proofs.YtofkdeojabongaaDoor
open Go.RowKit Go.PlainAid
set_option linter.unusedVariables false
set_option linter.unusedSimpArgs false
theorem rright_any : ∀ (m : Nat) (n : Nd), n.count ≤ m → ∀ (B : Nat) (cs : List Value) (w : World) (deep : Int), NdIs w B n cs → B ≤ w.heap.size → 0 ≤ deep → deep ≤ 24 → RrightC cs.toArray deep (rightD n deep) w := by
  intro m
  induction m with
  | zero => intro n hm; have := n.count_pos; omega
  | succ m ih =>
    intro n hm B cs w deep hn hB d0 d1
    cases n with
    | mk k num t ks ns =>
      unfold NdIs at hn
      obtain ⟨A, ck, A2, cc, xs, rfl, hks, hxs, hns, ik, inn, ht, hkl, hk, hmm⟩ := hn
      unfold maxLen at *
      have HIH : Hid (RrightHyp B ns) := by
        intro i n cs w' deep h1 h2 h3 h4 h5
        refine ih n ?_ B cs w' deep h2 h3 h4 h5
        have := Nd.counts_get ns i n h1
        simp only [Nd.count] at hm; omega
      by_cases h1 : k = 1 ∨ k = 2 ∨ k = 3
      · exact rright_const k num t ks ns A A2 ck cc xs w B deep hks hxs hns ht hkl hk hmm hB d0 d1 HIH h1
      by_cases h4 : k = 4
      · exact rright_num k num t ks ns A A2 ck cc xs w B deep hks hxs hns ht hkl hk hmm hB d0 d1 HIH h4
      by_cases h5 : k = 5
      · exact rright_str k num t ks ns A A2 ck cc xs w B deep hks hxs hns ht hkl hk hmm hB d0 d1 HIH h5
      by_cases h6 : k = 6
      · exact rright_arr k num t ks ns A A2 ck cc xs w B deep hks hxs hns ht hkl hk hmm hB d0 d1 HIH h6
      by_cases h7 : k = 7
      · exact rright_obj k num t ks ns A A2 ck cc xs w B deep hks hxs hns ht hkl hk hmm hB d0 d1 HIH h7
      exact rright_odd k num t ks ns A A2 ck cc xs w B deep hks hxs hns ht hkl hk hmm hB d0 d1 HIH (by omega)
/-- the reference's Right -/
theorem rRight_any (n : Nd) (cs : List Value) (w : World) (B : Nat) (hn : NdIs w B n cs) (hB : B ≤ w.heap.size) : Calls Tryd.prog 15 #[.agg cs.toArray] w (BoolBel (rightD n 0) w) := by
  have hl := hn.len
  have hW := Below.refl w.heap.size w
  match cs, hl with
  | [v0, v1, v2, v3, v4], _ =>
    have HC : Hid (∀ w', Below w.heap.size w w' → RrightC #[v0, v1, v2, v3, v4] 0 (rightD n 0) w') := fun w' hb =>
      rright_any n.count n (Nat.le_refl _) B [v0, v1, v2, v3, v4] w' 0 (hn.below (hb.mono (by omega))) (by have := hb.size; omega) (by omega) (by omega)
    obtain ⟨x0, x1, x2, x3, x4, x5, x6, x7, x8, rfl, rfl, rfl, rfl, rfl⟩ := hn.form
    show Calls Tryd.prog 15 #[.agg #[_, _, _, _, _]] w (BoolBel _ w)
    clear hn
    generalize rightD n 0 = W at *
    go_enter Tryd.func15, Tryd.ntmps15
    go_wp2_with fail
    refine (HC.out _ (hW.alloc hW.size _)).mono ?_; rintro e w1 ⟨rfl, hw1⟩
    go_wp2_with fail
    go_ret
    exact ⟨rfl, nextA hW hw1⟩
end Go.Proofs.YtofkdeojabongaaDoor
