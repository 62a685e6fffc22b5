/- Sizes of a value that is not great. -/
import Derived.Test.YtofkdeojabongaaDoorRput0
import Derived.Test.YtofkdeojabongaaDoorJspec
namespace Go.Proofs.YtofkdeojabongaaDoor
open Go.RowKit Go.PlainAid
set_option linter.unusedVariables false
set_option linter.unusedSimpArgs false
theorem nd0_is (k : Int) (hk : I64 k) (w : World) (B : Nat) : NdIs w B (nd0 k) [.int .i64 k, .int .i64 0, .string ⟨#[]⟩, .slice none 0 0, .slice none 0 0] := by
  unfold nd0 NdIs
  exact ⟨none, 0, none, 0, [], rfl, Reads.none_, Reads.none_, (by unfold NdsIs; rfl), hk, by unfold I64; omega, by (show (0 : Nat) ≤ maxLen); exact Nat.zero_le _, by simp, by simp [maxLen], by simp [maxLen]⟩
theorem Blk.cells5 {w : World} {g : Nat} {t : TypeId} {a b c d e : Value} (h : Blk w g t #[a, b, c, d, e]) : w.cell? ⟨g, 0, none⟩ = some a ∧ w.cell? ⟨g, 1, none⟩ = some b ∧ w.cell? ⟨g, 2, none⟩ = some c ∧ w.cell? ⟨g, 3, none⟩ = some d ∧ w.cell? ⟨g, 4, none⟩ = some e :=
  ⟨h.cell 0, h.cell 1, h.cell 2, h.cell 3, h.cell 4⟩
mutual
/-- numbers that an int64 holds, texts of no great size, at every depth -/
def sizeOk : Nd → Prop
  | .mk k num t ks ns => (-9223372036854775808 ≤ num ∧ num ≤ 9223372036854775807) ∧ t.size ≤ 1000000000 ∧ (∀ s ∈ ks, s.size ≤ 1000000000) ∧ (ks.length ≤ 1000000 ∧ ns.length ≤ 1000000) ∧ sizeOkL ns
def sizeOkL : List Nd → Prop
  | [] => True
  | n :: ns => sizeOk n ∧ sizeOkL ns
end
mutual
theorem good_of : ∀ (n : Nd) (deep : Int), sizeOk n → rightD n deep = true → goodN n
  | .mk k num t ks ns, deep, h, hr => by
    unfold sizeOk at h
    obtain ⟨h1, h2, h3, _, h4⟩ := h
    unfold goodN
    rw [rightD_eq, Bool.and_eq_true] at hr
    obtain ⟨hb, hr⟩ := hr
    refine ⟨h1, fun hk => ?_, h2, h3, ?_⟩
    · subst hk
      simp at hr
      exact hr.1.2.1
    · by_cases h67 : k = 6 ∨ k = 7
      · refine goodL_of ns (deep + 1) h4 ?_
        simp only [Bool.or_eq_true, Bool.and_eq_true, beq_iff_eq, decide_eq_true_eq] at hr
        rcases h67 with rfl | rfl
        · simp at hr; exact hr.2
        · simp at hr; exact hr.2
      · have : ns = [] := by
          unfold bareF at hb
          simp only [Bool.and_eq_true, Bool.or_eq_true, beq_iff_eq] at hb
          have := hb.2
          rcases this with h | h
          · exact absurd h h67
          · exact List.eq_nil_of_length_eq_zero h
        subst this
        unfold goodL; trivial
theorem goodL_of : ∀ (ns : List Nd) (deep : Int), sizeOkL ns → rightLD ns deep = true → goodL ns
  | [], deep, h, hr => by unfold goodL; trivial
  | n :: ns, deep, h, hr => by
    unfold sizeOkL at h
    unfold goodL
    have h0 := rightLD_at (n :: ns) 0 n deep rfl
    rw [List.drop_zero, hr] at h0
    have h0 := (Bool.and_eq_true _ _).mp h0.symm
    exact ⟨good_of n deep h.1 h0.1, goodL_of ns deep h.2 (by simpa using h0.2)⟩
end
theorem tooLong_all {ks : List ByteArray} (h : tooLong ks = false) : ∀ s ∈ ks, s.size ≤ 2000 := by
  induction ks with
  | nil => simp
  | cons a ks ih =>
    simp only [tooLong, Bool.or_eq_false_iff, decide_eq_false_iff_not] at h
    intro s hs
    rcases List.mem_cons.1 hs with rfl | hs
    · omega
    · exact ih h.2 s hs
theorem weightL_ge : ∀ (ns : List Nd) (deep acc : Int), 0 ≤ deep → deep ≤ 41 → 0 ≤ acc → acc ≤ weightL ns deep acc
  | [], deep, acc, _, _, _ => by unfold weightL; omega
  | n :: ns, deep, acc, h0, h1, h2 => by
    unfold weightL
    split
    · have := weightN_le n deep h0 h1
      have := weightL_ge ns deep (acc + weightN n deep) h0 h1 (by omega)
      omega
    · omega
mutual
theorem gN_weight : ∀ (n : Nd) (deep : Int), 0 ≤ deep → deep ≤ 41 → weightN n deep < 3000 → (gN n : Int) ≤ 30000 * weightN n deep - 15000
  | .mk k m t ks ns, deep, h0, h1, h => by
    unfold weightN at h ⊢
    split at h
    · omega
    rename_i hn
    rw [if_neg hn]
    split at h
    · omega
    rename_i hk
    rw [if_neg hk]
    have hks := tooLong_all (ks := ks) (by simpa using hk)
    have := gL_weight ns ks (deep + 1) 1 (by omega) (by omega) (by omega) h hks
    unfold gN
    omega
theorem gL_weight : ∀ (ns : List Nd) (ks : List ByteArray) (deep acc : Int), 0 ≤ deep → deep ≤ 41 → 0 ≤ acc → weightL ns deep acc < 3000 → (∀ s ∈ ks, s.size ≤ 2000) → (gL ks ns : Int) ≤ 30000 * (weightL ns deep acc - acc)
  | [], ks, deep, acc, _, _, _, h, _ => by unfold weightL gL; omega
  | n :: ns, ks, deep, acc, h0, h1, h2, h, hk => by
    unfold weightL at h ⊢
    by_cases ha : acc < 3000
    · rw [if_pos ha] at h ⊢
      have hw := weightN_le n deep h0 h1
      have hge := weightL_ge ns deep (acc + weightN n deep) h0 h1 (by omega)
      have i1 := gN_weight n deep h0 h1 (by omega)
      have i2 := gL_weight ns ks.tail deep (acc + weightN n deep) h0 h1 (by omega) h (fun s hs => hk s (List.mem_of_mem_tail hs))
      have i3 : (ks.headD ⟨#[]⟩).size ≤ 2000 := by
        cases ks with
        | nil => exact (by decide : (0 : Nat) ≤ 2000)
        | cons a ks => exact hk a (by simp)
      unfold gL
      omega
    · rw [if_neg ha] at h; omega
end
mutual
theorem size_of_weight {w : World} {B : Nat} : ∀ (n : Nd) (cs : List Value) (deep : Int), NdIs w B n cs → 0 ≤ deep → deep ≤ 41 → weightN n deep < 3000 → sizeOk n
  | .mk k m t ks ns, cs, deep, hn, h0, h1, h => by
    unfold NdIs at hn
    obtain ⟨A, ck, A2, cc, xs, rfl, hks, hxs, hns, ik, im, ht, hkl, hk', hmm⟩ := hn
    unfold weightN at h
    split at h
    · omega
    rename_i hn
    split at h
    · omega
    rename_i hk
    have hks := tooLong_all (ks := ks) (by simpa using hk)
    unfold sizeOk
    exact ⟨im, by omega, fun s hs => by have := hks s hs; omega, ⟨by omega, by omega⟩, sizeL_of_weight ns xs (deep + 1) 1 hns (by omega) (by omega) (by omega) h⟩
theorem sizeL_of_weight {w : World} {B : Nat} : ∀ (ns : List Nd) (xs : List Value) (deep acc : Int), NdsIs w B ns xs → 0 ≤ deep → deep ≤ 41 → 0 ≤ acc → weightL ns deep acc < 3000 → sizeOkL ns
  | [], xs, deep, acc, hn, _, _, _, h => by unfold sizeOkL; trivial
  | n :: ns, xs, deep, acc, hn, h0, h1, h2, h => by
    unfold NdsIs at hn
    obtain ⟨cs, ys, rfl, hn1, hn2⟩ := hn
    unfold weightL at h
    by_cases ha : acc < 3000
    · rw [if_pos ha] at h
      have hw := weightN_le n deep h0 h1
      have hge := weightL_ge ns deep (acc + weightN n deep) h0 h1 (by omega)
      unfold sizeOkL
      exact ⟨size_of_weight n cs deep hn1 h0 h1 (by omega), sizeL_of_weight ns ys deep _ hn2 h0 h1 (by omega) h⟩
    · rw [if_neg ha] at h; omega
end
/-- a value that is not great -/
theorem not_great {w : World} {B : Nat} {n : Nd} {cs : List Value} (hn : NdIs w B n cs) (h : greatN n = false) : sizeOk n ∧ gN n ≤ 60000000 := by
  unfold greatN at h
  have h := of_decide_eq_false h
  have h1 := size_of_weight n cs 0 hn (by omega) (by omega) (by omega)
  have h2 := gN_weight n 0 (by omega) (by omega) (by omega)
  exact ⟨h1, by omega⟩
end Go.Proofs.YtofkdeojabongaaDoor
